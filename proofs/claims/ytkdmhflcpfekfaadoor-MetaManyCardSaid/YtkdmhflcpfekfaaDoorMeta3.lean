/- The reference's Reserved, Bears, lists and Pack of layer 21. Conditions: the library's tables are laid; texts within bounds. -/
import Derived.Test.YtkdmhflcpfekfaaDoorMeta1
import Derived.Test.YtkdmhflcpfekfaaDoorRef17c
import Derived.Test.YtkdmhflcpfekfaaDoorHexa2
namespace Go.Proofs.YtkdmhflcpfekfaaDoor
set_option linter.unusedVariables false
set_option linter.unusedSimpArgs false
open Go.RowKit

set_option maxRecDepth 100000 in
theorem ref21_Reserved (s : ByteArray) (w : World) :
    Calls Tryd.prog 18 #[.string s] w fun e w' => e = .returned (.bool (Lib.hasPrefix s.data.toList gitM)) ∧ w' = w := by
  have cP : ∀ W, Calls Tryd.prog 30 #[.string s, .string ⟨#[103, 105, 116, 46]⟩] W fun e w' => e = .returned (.bool (Lib.hasPrefix s.data.toList gitM)) ∧ w' = W := fun W => help_Begins s ⟨#[103, 105, 116, 46]⟩ W
  go_enter Tryd.func18, Tryd.ntmps18
  go_wp2_with (go_at_call 30; with_reducible refine (cP _).mono ?_; rintro e1 W1 ⟨rfl, h1⟩; subst W1)
  go_ret
  exact ⟨rfl, rfl⟩
set_option maxRecDepth 100000 in
theorem ref21_Bears (s : ByteArray) (w : World) (hs : s.size ≤ 4000000000) :
    Calls Tryd.prog 20 #[.string s] w fun e w' => e = .returned (.bool (bearsP s.data.toList)) ∧ w' = w := by
  obtain ⟨F, hF⟩ : ∃ F, Lib.index s.data.toList markM = F := ⟨_, rfl⟩
  have cP : ∀ W, Calls Tryd.prog 23 #[.string s, .string markT, .int .i64 0] W fun e w' => e = .returned (.int .i64 F) ∧ w' = W := fun W => (help_Find s markT W (by omega) (by decide) (by decide)).mono (fun e w' h => ⟨by rw [h.1, ← hF]; rfl, h.2⟩)
  have hb : bearsP s.data.toList = decide (0 ≤ F) := by unfold bearsP Lib.contains; rw [hF]
  rw [hb]
  clear hb hF
  go_enter Tryd.func20, Tryd.ntmps20
  go_wp2_with (go_at_call 23; with_reducible refine (cP _).mono ?_; rintro e1 W1 ⟨rfl, h1⟩; subst W1)
  go_ret
  exact ⟨rfl, rfl⟩

set_option maxRecDepth 100000 in
theorem ref21_lists (p q : Option Addr) (l m : List Two) (c d : Nat) (w : World) (hl : l.length ≤ 1073741824) (hml : m.length ≤ 1073741824) (hr : RdG kExtra w p l) (hq : RdG kCopy w q m) (hf : ∀ x ∈ l, FineW x) (hg : ∀ x ∈ m, FineW x) (hu : U8Ok w) :
    Calls Tryd.prog 26 #[.slice p l.length c, .slice q m.length d] w fun e w' => e = .returned (.bool (besideP l m)) ∧ Grew w w' := by
  have cL := fun (cs : Array Value) (h64 : cs[64]? = some (.slice p l.length c)) (h65 : cs[65]? = some (.slice q m.length d)) => ref17_Lists cs p q l m c d w h64 h65 hl hml hr hq hf hg hu
  generalize besideP l m = B at cL ⊢
  clear hl hml hr hq hf hg hu
  go_enter Tryd.func26, Tryd.ntmps26
  go_wp2_with (go_at_call 43; refine (cL _ (by rfl) (by rfl)).mono ?_; rintro e1 W1 ⟨rfl, g1⟩)
  go_ret
  exact ⟨rfl, g1⟩

/-- Text's bytes, as digits. -/
theorem hexr_text' (s : ByteArray) (W W' : World) (hs : s.size ≤ 1099511627776) (g : Grew (Lib.bytesWorld W 5 s) W') :
    Calls Tryd.prog 27 #[.slice (some ⟨W.heap.size, 0, none⟩) s.size (grownCap W s.size 0 5)] W' fun e w' => e = .returned (.string ⟨(Pure.hex s.data.toList).toArray⟩) ∧ Grew W' w' := by
  have hsl : s.data.toList.length = s.size := Array.length_toList
  obtain ⟨p, c, hv, hr, -, -⟩ := (OwnB.conv (w := W) (base := 0) s (Nat.zero_le _) (by omega)).val
  injection hv with e1 e2 e3
  subst e1
  have h := ref_Hex (some ⟨W.heap.size, 0, none⟩) s.data.toList (grownCap W s.size 0 5) W' (by omega) (hr.below g (Nat.le_refl _))
  rw [hsl] at h
  exact h

set_option maxRecDepth 100000 in
set_option maxHeartbeats 8000000 in
theorem ref21_Pack (t : ByteArray) (p q : Option Addr) (l m : List Two) (c d : Nat) (w : World) (ht : t.size ≤ 1073741824) (hl : l.length ≤ 1073741824) (hml : m.length ≤ 1073741824) (hr : RdG kExtra w p l) (hq : RdG kCopy w q m) (hf : ∀ x ∈ l, FineW x) (hg : ∀ x ∈ m, FineW x) (hsz : (trailerP l m).length ≤ 1099511627776) (hu : U8Ok w) :
    Calls Tryd.prog 12 #[.string t, .slice p l.length c, .slice q m.length d] w fun e w' => e = .returned (.tuple #[.string ⟨(packP t.data.toList l m).1.toArray⟩, .int .i64 (packP t.data.toList l m).2]) ∧ Grew w w' := by
  have g0 : Grew w w := Below.refl _ _
  have cB := fun W => ref21_Bears t W (by omega)
  have cS := fun W (g : Grew w W) => ref21_lists p q l m c d W hl hml (hr.grew g) (hq.grew g) hf hg (u8_grew hu g)
  have htl : t.data.toList.length = t.size := Array.length_toList
  by_cases hbad : bearsP t.data.toList = true ∨ besideP l m = false
  · rw [pack_bad hbad]
    obtain ⟨B, hB⟩ : ∃ B, bearsP t.data.toList = B := ⟨_, rfl⟩
    obtain ⟨S, hS⟩ : ∃ B, besideP l m = B := ⟨_, rfl⟩
    simp only [hB] at cB
    simp only [hS] at cS
    rw [hB, hS] at hbad
    clear hu hr hq hf hg hB hS htl
    have ways : B = true ∨ (B = false ∧ S = false) := by cases B <;> cases S <;> simp_all
    clear hbad
    rcases ways with rfl | ⟨rfl, rfl⟩
    all_goals
      go_enter Tryd.func12, Tryd.ntmps12
      go_wp2_with (first | (go_at_call 20; with_reducible refine (cB _).mono ?_; rintro e1 W1 ⟨rfl, h1⟩; subst W1) | (go_at_call 26; with_reducible refine (cS _ (by assumption)).mono ?_; rintro e1 W1 ⟨rfl, g1⟩; replace g1 := Grew.trans' (a := w) (by assumption) g1))
      go_ret2
      exact ⟨rfl, by assumption⟩
  · obtain ⟨hB, hS⟩ : bearsP t.data.toList = false ∧ besideP l m = true := by
      cases h1 : bearsP t.data.toList <;> cases h2 : besideP l m <;> simp_all
    have hpk := pack_good (t := t.data.toList) hB hS
    simp only [hB] at cB
    simp only [hS] at cS
    obtain ⟨N, hN⟩ : ∃ N, l.length + m.length = N := ⟨_, rfl⟩
    -- what the text is ahead of the lines
    obtain ⟨M0, hM0, hM0l⟩ : ∃ M0 : ByteArray, M0 = (if 0 < N then t ++ markT else t) ∧ M0.data.toList = (if 0 < N then t.data.toList ++ markM else t.data.toList) := by
      refine ⟨_, rfl, ?_⟩
      by_cases h : 0 < N
      · rw [if_pos h, if_pos h, append_list]; rfl
      · rw [if_neg h, if_neg h]
    have hM0s : M0.size ≤ t.size + 15 := by
      rw [hM0]
      by_cases h : 0 < N
      · rw [if_pos h, ByteArray.size_append]; exact Nat.le_refl _
      · rw [if_neg h]; omega
    have hwhole : packP t.data.toList l m = if 0 < N ∧ 32768 < (M0.data.toList ++ trailerP l m).length then ([], 5) else (M0.data.toList ++ trailerP l m, 0) := by
      rw [hpk, hN, hM0l]
      by_cases h : 0 < N
      · rw [if_pos h, if_pos h]
        by_cases h2 : 32768 < (t.data.toList ++ markM ++ trailerP l m).length
        · rw [if_pos h2, if_pos ⟨h, h2⟩]
        · rw [if_neg h2, if_neg (fun k => h2 k.2)]
      · have e1 : l = [] := List.eq_nil_of_length_eq_zero (by omega)
        have e2 : m = [] := List.eq_nil_of_length_eq_zero (by omega)
        rw [if_neg h, if_neg h, if_neg (fun k => h k.1), e1, e2]
        simp [trailerP]
    have hn1 : ¬ 9223372036854775807 < t.size + 15 := by omega
    have HR := Lib.hid hr
    have HQ := Lib.hid hq
    have hsz1 : (l.flatMap extraL).length + (m.flatMap copyL).length ≤ 1099511627776 := by unfold trailerP at hsz; rw [List.length_append] at hsz; exact hsz
    have HSZ := Lib.hid hsz1
    have HWH := Lib.hid hwhole
    have HM0S := Lib.hid hM0s
    have hways : (decide ((0 : Int) < (l.length : Int)) = true ∧ decide (0 < l.length) = true ∧ 0 < N) ∨ (decide ((0 : Int) < (l.length : Int)) = false ∧ decide (0 < l.length) = false ∧ decide ((0 : Int) < (m.length : Int)) = true ∧ decide (0 < m.length) = true ∧ 0 < N) ∨ (decide ((0 : Int) < (l.length : Int)) = false ∧ decide (0 < l.length) = false ∧ decide ((0 : Int) < (m.length : Int)) = false ∧ decide (0 < m.length) = false ∧ ¬ 0 < N) := by
      by_cases h1 : 0 < l.length
      · exact .inl ⟨decide_eq_true (by omega), decide_eq_true h1, by omega⟩
      · by_cases h2 : 0 < m.length
        · exact .inr (.inl ⟨decide_eq_false (by omega), decide_eq_false h1, decide_eq_true (by omega), decide_eq_true h2, by omega⟩)
        · exact .inr (.inr ⟨decide_eq_false (by omega), decide_eq_false h1, decide_eq_false (by omega), decide_eq_false h2, by omega⟩)
    have HN := Lib.hid hN
    clear hu hr hq hf hg hbad hB hS hpk hM0l hM0s hwhole htl hsz hsz1 hN
    have hstart : ∀ W, Grew w W → (decide ((0 : Int) < (l.length : Int)) = true ∨ True) := fun _ _ => .inr trivial
    clear hstart
    go_enter Tryd.func12, Tryd.ntmps12
    rcases hways with ⟨f1, f1', hN0⟩ | ⟨f1, f1', f2, f2', hN0⟩ | ⟨f1, f1', f2, f2', hN0⟩
    all_goals
      (first | rw [if_pos hN0] at hM0 | rw [if_neg hN0] at hM0)
      have HN0 := Lib.hid hN0
      clear hN0
      go_wp2_with (first | (go_at_call 20; with_reducible refine (cB _).mono ?_; rintro e1 W1 ⟨rfl, h1⟩; subst W1) | (go_at_call 26; with_reducible refine (cS _ (by assumption)).mono ?_; rintro e1 W1 ⟨rfl, g1⟩; replace g1 := Grew.trans' (a := w) (by assumption) g1))
      first | (rw [← hM0]; clear hM0) | subst hM0
      have gW : Grew w W1 := by assumption
      clear cB cS f1 f1'
      try clear f2 f2'
      go_loopw [8, 9] (fun sv i wr => ∃ (k : Nat) (S : ByteArray), .string S = sv ∧ i = .int .i64 (k : Int) ∧ k ≤ l.length ∧ Grew w wr ∧ Hid (S.data.toList = M0.data.toList ++ (l.take k).flatMap extraL)) (fun _ i _ => l.length - (intOf i).toNat)
      case atStart => exact ⟨0, M0, rfl, rfl, Nat.zero_le _, gW, by simp [Hid]⟩
      case round =>
        obtain ⟨k, S, rfl, rfl, hk, hb, hS⟩ := hrel
        obtain ⟨wo, rfl⟩ : ∃ wo : World, wo = wr := ⟨_, rfl⟩
        by_cases hlt : k < l.length
        · obtain ⟨x, hx⟩ : ∃ x, l[k]? = some x := ⟨_, List.getElem?_eq_getElem hlt⟩
          rcases HR.out with h | ⟨b, o, rfl, hc⟩
          · subst h; simp at hlt
          have rx : wo.rangeAt b (o + k * 2) x.cells := range_grew (hc k x hx) hb
          have gVV : Grew wo wo := Below.refl _ _
          have bW : ∀ W, Grew wo W → W.rangeAt b (o + k * 2) x.cells := fun W g => range_grew rx g
          clear hc
          have hnx := flat_next (f := extraL) hx
          have hle1 := take_flat_le (f := extraL) l (k + 1)
          rw [hnx, List.length_append, extra_len] at hle1
          have hle2 := HSZ.out
          have hSl : S.size = M0.size + ((l.take k).flatMap extraL).length := by
            have h := congrArg List.length hS.out
            rwa [List.length_append, show S.data.toList.length = S.size from Array.length_toList, show M0.data.toList.length = M0.size from Array.length_toList] at h
          have hM0b := HM0S.out
          have hxb40 : x.b.size ≤ 1099511627776 := by omega
          have cH := fun W' g => hexr_text' x.b wo.drew W' hxb40 g
          have kc := run_conv_text wo.drew x.b
          have gA0 := bytesWorld_grew wo.drew x.b
          have hdr : wo.drew.heap.size = wo.heap.size := rfl
          rw [hdr] at cH kc
          generalize grownCap wo.drew x.b.size 0 5 = ca at cH kc
          generalize Lib.bytesWorld wo.drew 5 x.b = UA at cH kc gA0
          have gVA : Grew wo UA := Grew.trans' (Below.drew gVV) gA0
          have gAA : Grew UA UA := Below.refl _ _
          obtain ⟨H, hH⟩ : ∃ H : ByteArray, (⟨(Pure.hex x.b.data.toList).toArray⟩ : ByteArray) = H := ⟨_, rfl⟩
          have hHl : H.data.toList = Pure.hex x.b.data.toList := by rw [← hH]
          have hHs : H.size = 2 * x.b.size := by rw [Lib.size_eq, hHl, Pure.hex_length]; rfl
          simp only [hH] at cH
          obtain ⟨T0, h0⟩ : ∃ T : ByteArray, S ++ ⟨#[101, 120, 116, 114, 97, 32]⟩ = T := ⟨_, rfl⟩
          obtain ⟨T1, h1⟩ : ∃ T : ByteArray, T0 ++ x.a = T := ⟨_, rfl⟩
          obtain ⟨T2, h2⟩ : ∃ T : ByteArray, T1 ++ ⟨#[32]⟩ = T := ⟨_, rfl⟩
          obtain ⟨T3, h3⟩ : ∃ T : ByteArray, T2 ++ H = T := ⟨_, rfl⟩
          obtain ⟨T4, h4⟩ : ∃ T : ByteArray, T3 ++ ⟨#[10]⟩ = T := ⟨_, rfl⟩
          have s0 : T0.size = S.size + 6 := by rw [← h0, ByteArray.size_append]; rfl
          have s1 : T1.size = T0.size + x.a.size := by rw [← h1, ByteArray.size_append]
          have s2 : T2.size = T1.size + 1 := by rw [← h2, ByteArray.size_append]; rfl
          have s3 : T3.size = T2.size + H.size := by rw [← h3, ByteArray.size_append]
          have s4 : T4.size = T3.size + 1 := by rw [← h4, ByteArray.size_append]; rfl
          have hT4 : T4.data.toList = M0.data.toList ++ (l.take (k + 1)).flatMap extraL := by
            rw [← h4, ← h3, ← h2, ← h1, ← h0, hnx]
            simp only [append_list, hHl, hS.out, extraL, extraB, List.append_assoc]
            try rfl
          have n0 : ¬ 9223372036854775807 < S.size + 6 := by omega
          have n1 : ¬ 9223372036854775807 < T0.size + x.a.size := by omega
          have n2 : ¬ 9223372036854775807 < T1.size + 1 := by omega
          have n3 : ¬ 9223372036854775807 < T2.size + H.size := by omega
          have n4 : ¬ 9223372036854775807 < T3.size + 1 := by omega
          have HT4 := Lib.hid hT4
          clear rx hnx hle1 hH hHl hHs s0 s1 s2 s3 s4 hT4 hS hx hSl
          go_wp2
          refine wp_region_held_drew (S := fun w' => Grew wo w') (by kernel_rfl) (by (first | assumption | exact Below.drew (by assumption) | exact Grew.trans' (by assumption) (by assumption))) (fun hHeld => ?_)
          first
            | (refine wpAnyH_take (i := 0) (v := ?_) rfl (by kernel_rfl) (by kernel_rfl) (by kernel_rfl) (fun _ _ _ h => h) (Or.inl ⟨by rfl, ?_⟩) (by assumption) ?_; rotate_left 1; focus (intro w hSw; (obtain ⟨hs3, hs4⟩ := two_range (bW _ hSw)); go_simp; (try with_reducible rfl)))
            | fail
          try simp only [Act.put, List.getElem_toArray, List.getElem_cons_succ, List.getElem_cons_zero, List.setIfInBounds_toArray, List.set_cons_zero, List.set_cons_succ]
          first
            | (refine wpAnyH_take (i := 1) (v := ?_) rfl (by kernel_rfl) (by kernel_rfl) (by kernel_rfl) (fun _ _ _ h => h) (Or.inl ⟨by rfl, ?_⟩) (by assumption) ?_; rotate_left 1; focus (intro w hSw; (obtain ⟨hs3, hs4⟩ := two_range (bW _ hSw)); go_simp; (try with_reducible rfl)))
            | fail
          try simp only [Act.put, List.getElem_toArray, List.getElem_cons_succ, List.getElem_cons_zero, List.setIfInBounds_toArray, List.set_cons_zero, List.set_cons_succ]
          first
            | (refine wpAnyH_take (i := 2) (v := ?_) rfl (by kernel_rfl) (by kernel_rfl) (by kernel_rfl) (fun _ _ _ h => h) (Or.inl ⟨by rfl, ?_⟩) (by assumption) ?_; rotate_left 1; focus (intro w hSw; (obtain ⟨hs3, hs4⟩ := two_range (bW _ hSw)); go_simp; (try with_reducible rfl)))
            | fail
          try simp only [Act.put, List.getElem_toArray, List.getElem_cons_succ, List.getElem_cons_zero, List.setIfInBounds_toArray, List.set_cons_zero, List.set_cons_succ]
          first
            | (refine wpAnyH_take (i := 3) (v := ?_) rfl (by kernel_rfl) (by kernel_rfl) (by kernel_rfl) (fun _ _ _ h => h) (Or.inl ⟨by rfl, ?_⟩) (by assumption) ?_; rotate_left 1; focus (intro w hSw; (obtain ⟨hs3, hs4⟩ := two_range (bW _ hSw)); go_simp; (try with_reducible rfl)))
            | fail
          try simp only [Act.put, List.getElem_toArray, List.getElem_cons_succ, List.getElem_cons_zero, List.setIfInBounds_toArray, List.set_cons_zero, List.set_cons_succ]
          first
            | (refine wpAnyH_take (i := 4) (v := ?_) rfl (by kernel_rfl) (by kernel_rfl) (by kernel_rfl) (fun _ _ _ h => h) (Or.inl ⟨by rfl, ?_⟩) (by assumption) ?_; rotate_left 1; focus (intro w hSw; (obtain ⟨hs3, hs4⟩ := two_range (bW _ hSw)); go_simp; (try with_reducible rfl)))
            | fail
          try simp only [Act.put, List.getElem_toArray, List.getElem_cons_succ, List.getElem_cons_zero, List.setIfInBounds_toArray, List.set_cons_zero, List.set_cons_succ]
          first
            | (refine wpAnyH_take (i := 5) (v := ?_) rfl (by kernel_rfl) (by kernel_rfl) (by kernel_rfl) (fun _ _ _ h => h) (Or.inl ⟨by rfl, ?_⟩) (by assumption) ?_; rotate_left 1; focus (intro w hSw; (obtain ⟨hs3, hs4⟩ := two_range (bW _ hSw)); go_simp; (try with_reducible rfl)))
            | fail
          try simp only [Act.put, List.getElem_toArray, List.getElem_cons_succ, List.getElem_cons_zero, List.setIfInBounds_toArray, List.set_cons_zero, List.set_cons_succ]
          first
            | (refine wpAnyH_take (i := 6) (v := ?_) rfl (by kernel_rfl) (by kernel_rfl) (by kernel_rfl) (fun _ _ _ h => h) (Or.inl ⟨by rfl, ?_⟩) (by assumption) ?_; rotate_left 1; focus (intro w hSw; (obtain ⟨hs3, hs4⟩ := two_range (bW _ hSw)); go_simp; (try with_reducible rfl)))
            | fail
          try simp only [Act.put, List.getElem_toArray, List.getElem_cons_succ, List.getElem_cons_zero, List.setIfInBounds_toArray, List.set_cons_zero, List.set_cons_succ]
          first
            | (refine wpAnyH_take (i := 7) (v := ?_) rfl (by kernel_rfl) (by kernel_rfl) (by kernel_rfl) (fun _ _ _ h => h) (Or.inl ⟨by rfl, ?_⟩) (by assumption) ?_; rotate_left 1; focus (intro w hSw; (obtain ⟨hs3, hs4⟩ := two_range (bW _ hSw)); go_simp; (try with_reducible rfl)))
            | fail
          try simp only [Act.put, List.getElem_toArray, List.getElem_cons_succ, List.getElem_cons_zero, List.setIfInBounds_toArray, List.set_cons_zero, List.set_cons_succ]
          first
            | (refine wpAnyH_take (i := 8) (v := ?_) rfl (by kernel_rfl) (by kernel_rfl) (by kernel_rfl) (fun _ _ _ h => h) (Or.inl ⟨by rfl, ?_⟩) (by assumption) ?_; rotate_left 1; focus (intro w hSw; (obtain ⟨hs3, hs4⟩ := two_range (bW _ hSw)); go_simp; (try with_reducible rfl)))
            | fail
          try simp only [Act.put, List.getElem_toArray, List.getElem_cons_succ, List.getElem_cons_zero, List.setIfInBounds_toArray, List.set_cons_zero, List.set_cons_succ]
          first
            | (refine wpAnyH_take (i := 9) (v := ?_) rfl (by kernel_rfl) (by kernel_rfl) (by kernel_rfl) (fun _ _ _ h => h) (Or.inl ⟨by rfl, ?_⟩) (by assumption) ?_; rotate_left 1; focus (intro w hSw; (obtain ⟨hs3, hs4⟩ := two_range (bW _ hSw)); go_simp; (try with_reducible rfl)))
            | fail
          try simp only [Act.put, List.getElem_toArray, List.getElem_cons_succ, List.getElem_cons_zero, List.setIfInBounds_toArray, List.set_cons_zero, List.set_cons_succ]
          first
            | (refine wpAnyH_take (i := 10) (v := ?_) rfl (by kernel_rfl) (by kernel_rfl) (by kernel_rfl) (fun _ _ _ h => h) (Or.inl ⟨by rfl, ?_⟩) (by assumption) ?_; rotate_left 1; focus (intro w hSw; (obtain ⟨hs3, hs4⟩ := two_range (bW _ hSw)); go_simp; (try with_reducible rfl)))
            | fail
          try simp only [Act.put, List.getElem_toArray, List.getElem_cons_succ, List.getElem_cons_zero, List.setIfInBounds_toArray, List.set_cons_zero, List.set_cons_succ]
          first
            | (refine wpAnyH_take (i := 11) (v := ?_) rfl (by kernel_rfl) (by kernel_rfl) (by kernel_rfl) (fun _ _ _ h => h) (Or.inl ⟨by rfl, ?_⟩) (by assumption) ?_; rotate_left 1; focus (intro w hSw; (obtain ⟨hs3, hs4⟩ := two_range (bW _ hSw)); go_simp; (try with_reducible rfl)))
            | fail
          try simp only [Act.put, List.getElem_toArray, List.getElem_cons_succ, List.getElem_cons_zero, List.setIfInBounds_toArray, List.set_cons_zero, List.set_cons_succ]
          first
            | (refine wpAnyH_take (i := 12) (v := ?_) rfl (by kernel_rfl) (by kernel_rfl) (by kernel_rfl) (fun _ _ _ h => h) (Or.inl ⟨by rfl, ?_⟩) (by assumption) ?_; rotate_left 1; focus (intro w hSw; (obtain ⟨hs3, hs4⟩ := two_range (bW _ hSw)); go_simp; (try with_reducible rfl)))
            | fail
          try simp only [Act.put, List.getElem_toArray, List.getElem_cons_succ, List.getElem_cons_zero, List.setIfInBounds_toArray, List.set_cons_zero, List.set_cons_succ]
          first
            | (refine wpAnyH_take (i := 13) (v := ?_) rfl (by kernel_rfl) (by kernel_rfl) (by kernel_rfl) (fun _ _ _ h => h) (Or.inl ⟨by rfl, ?_⟩) (by assumption) ?_; rotate_left 1; focus (intro w hSw; (obtain ⟨hs3, hs4⟩ := two_range (bW _ hSw)); go_simp; (try with_reducible rfl)))
            | fail
          try simp only [Act.put, List.getElem_toArray, List.getElem_cons_succ, List.getElem_cons_zero, List.setIfInBounds_toArray, List.set_cons_zero, List.set_cons_succ]
          refine wpAnyH_ready (rs := [14]) (by kernel_rfl) (by simp) ?_
          refine AllReadyH.cons rfl (fun K hK => ?_) AllReadyH.nil
          go_simp
          skip
          go_wp2_with fail
          refine hK.out _ _ (by (first | assumption | exact Below.drew (by assumption) | exact Grew.trans' (by assumption) (by assumption))) (fun hHeld => ?_)
          clear hK K
          try simp only [Act.put, List.getElem_toArray, List.getElem_cons_succ, List.getElem_cons_zero, List.setIfInBounds_toArray, List.set_cons_zero, List.set_cons_succ]
          refine wpAnyH_ready (rs := [15]) (by kernel_rfl) (by simp) ?_
          refine AllReadyH.cons rfl (fun K hK => ?_) AllReadyH.nil
          go_simp
          (go_at_call 27; refine (cH _ gAA).mono ?_; rintro e1 W2 ⟨rfl, g1⟩; have gV1 : Grew wo W2 := gVA.trans' g1)
          go_wp2_with fail
          refine hK.out _ _ (by (first | assumption | exact Below.drew (by assumption) | exact Grew.trans' (by assumption) (by assumption))) (fun hHeld => ?_)
          clear hK K
          try simp only [Act.put, List.getElem_toArray, List.getElem_cons_succ, List.getElem_cons_zero, List.setIfInBounds_toArray, List.set_cons_zero, List.set_cons_succ]
          first
            | (refine wpAnyH_take (i := 16) (v := ?_) rfl (by kernel_rfl) (by kernel_rfl) (by kernel_rfl) (fun _ _ _ h => h) (Or.inl ⟨by rfl, ?_⟩) (by assumption) ?_; rotate_left 1; focus (intro w hSw; (obtain ⟨hs3, hs4⟩ := two_range (bW _ hSw)); go_simp; (try with_reducible rfl)))
            | fail
          try simp only [Act.put, List.getElem_toArray, List.getElem_cons_succ, List.getElem_cons_zero, List.setIfInBounds_toArray, List.set_cons_zero, List.set_cons_succ]
          first
            | (refine wpAnyH_take (i := 17) (v := ?_) rfl (by kernel_rfl) (by kernel_rfl) (by kernel_rfl) (fun _ _ _ h => h) (Or.inl ⟨by rfl, ?_⟩) (by assumption) ?_; rotate_left 1; focus (intro w hSw; (obtain ⟨hs3, hs4⟩ := two_range (bW _ hSw)); go_simp; (try with_reducible rfl)))
            | fail
          try simp only [Act.put, List.getElem_toArray, List.getElem_cons_succ, List.getElem_cons_zero, List.setIfInBounds_toArray, List.set_cons_zero, List.set_cons_succ]
          first
            | (refine wpAnyH_take (i := 18) (v := ?_) rfl (by kernel_rfl) (by kernel_rfl) (by kernel_rfl) (fun _ _ _ h => h) (Or.inl ⟨by rfl, ?_⟩) (by assumption) ?_; rotate_left 1; focus (intro w hSw; (obtain ⟨hs3, hs4⟩ := two_range (bW _ hSw)); go_simp; (try with_reducible rfl)))
            | fail
          try simp only [Act.put, List.getElem_toArray, List.getElem_cons_succ, List.getElem_cons_zero, List.setIfInBounds_toArray, List.set_cons_zero, List.set_cons_succ]
          refine wpAnyH_done (by kernel_rfl) ?_ _
          go_wp2
          go_roundw
          case rel => exact ⟨k + 1, T4, by first | rfl | assumption, by go_num, by omega, hb.trans' (by assumption), HT4⟩
          case measure => simp [intOf]; omega
        · obtain rfl : k = l.length := by omega
          rw [List.take_length] at hS
          have hS1 := hS.out
          have hSl : S.size = M0.size + (l.flatMap extraL).length := by
            have h := congrArg List.length hS1
            rwa [List.length_append, show S.data.toList.length = S.size from Array.length_toList, show M0.data.toList.length = M0.size from Array.length_toList] at h
          have HSL := Lib.hid hSl
          have hT0 : trailerP l m = l.flatMap extraL ++ m.flatMap copyL := rfl
          have HT0 := Lib.hid hT0
          clear hlt hS1 hSl hT0
          have gW2 : Grew w wo := hb
          obtain ⟨S1, hS1⟩ : ∃ S1 : ByteArray, S1 = S := ⟨_, rfl⟩
          have HSS : Hid (S1.data.toList = M0.data.toList ++ l.flatMap extraL) := by rw [hS1]; exact hS
          have HSL1 : Hid (S1.size = M0.size + (l.flatMap extraL).length) := by rw [hS1]; exact HSL
          clear hS HSL
          subst hS1
          go_wp2
          go_loopw [8, 10] (fun sv i wr => ∃ (k : Nat) (S : ByteArray), .string S = sv ∧ i = .int .i64 (k : Int) ∧ k ≤ m.length ∧ Grew w wr ∧ Hid (S.data.toList = S1.data.toList ++ (m.take k).flatMap copyL)) (fun _ i _ => m.length - (intOf i).toNat)
          case atStart => exact ⟨0, S1, rfl, rfl, Nat.zero_le _, hb, by simp [Hid]⟩
          case round =>
            clear hb gW2
            obtain ⟨k, S, rfl, rfl, hk, hb, hS⟩ := hrel
            obtain ⟨wp, rfl⟩ : ∃ wp : World, wp = wr := ⟨_, rfl⟩
            by_cases hlt : k < m.length
            · obtain ⟨x, hx⟩ : ∃ x, m[k]? = some x := ⟨_, List.getElem?_eq_getElem hlt⟩
              rcases HQ.out with h | ⟨b, o, rfl, hc⟩
              · subst h; simp at hlt
              have rx : wp.rangeAt b (o + k * 2) x.cells := range_grew (hc k x hx) hb
              obtain ⟨V, hV⟩ : ∃ V : World, V = wp := ⟨_, rfl⟩
              subst hV
              have gVV : Grew V V := Below.refl _ _
              have bW : ∀ W, Grew V W → W.rangeAt b (o + k * 2) x.cells := fun W g => range_grew rx g
              clear hc
              have hnx := flat_next (f := copyL) hx
              have hle1 := take_flat_le (f := copyL) m (k + 1)
              rw [hnx, List.length_append, copy_len] at hle1
              have hle2 := HSZ.out
              have hSl : S.size = S1.size + ((m.take k).flatMap copyL).length := by
                have h := congrArg List.length hS.out
                rwa [List.length_append, show S.data.toList.length = S.size from Array.length_toList, show S1.data.toList.length = S1.size from Array.length_toList] at h
              have hM0b := HM0S.out
              have hS1b := HSL1.out
              have hxa40 : x.a.size ≤ 1099511627776 := by omega
              have hxb40 : x.b.size ≤ 1099511627776 := by omega
              obtain ⟨H1, hH1⟩ : ∃ H : ByteArray, (⟨(Pure.hex x.a.data.toList).toArray⟩ : ByteArray) = H := ⟨_, rfl⟩
              obtain ⟨H2, hH2⟩ : ∃ H : ByteArray, (⟨(Pure.hex x.b.data.toList).toArray⟩ : ByteArray) = H := ⟨_, rfl⟩
              have hH1l : H1.data.toList = Pure.hex x.a.data.toList := by rw [← hH1]
              have hH2l : H2.data.toList = Pure.hex x.b.data.toList := by rw [← hH2]
              have hH1s : H1.size = 2 * x.a.size := by rw [Lib.size_eq, hH1l, Pure.hex_length]; rfl
              have hH2s : H2.size = 2 * x.b.size := by rw [Lib.size_eq, hH2l, Pure.hex_length]; rfl
              have cA := fun W W' g => hexr_text' x.a W W' hxa40 g
              have cB := fun W W' g => hexr_text' x.b W W' hxb40 g
              simp only [hH1] at cA
              simp only [hH2] at cB
              have hdr : V.drew.heap.size = V.heap.size := rfl
              have kA0 := run_conv_text V.drew x.a
              have kB0 := run_conv_text V.drew x.b
              have cA0 := cA V.drew
              have cB0 := cB V.drew
              have gA0 := bytesWorld_grew V.drew x.a
              have gB0 := bytesWorld_grew V.drew x.b
              rw [hdr] at kA0 kB0 cA0 cB0
              generalize grownCap V.drew x.a.size 0 5 = ca at kA0 cA0
              generalize grownCap V.drew x.b.size 0 5 = cb at kB0 cB0
              generalize Lib.bytesWorld V.drew 5 x.a = UA at kA0 cA0 gA0
              generalize Lib.bytesWorld V.drew 5 x.b = UB at kB0 cB0 gB0
              have gVA : Grew V UA := Grew.trans' (Below.drew gVV) gA0
              have gVB : Grew V UB := Grew.trans' (Below.drew gVV) gB0
              have kAB := run_conv_text UA x.b
              have kBA := run_conv_text UB x.a
              have cAB := cB UA
              have cBA := cA UB
              have gAB := bytesWorld_grew UA x.b
              have gBA := bytesWorld_grew UB x.a
              generalize grownCap UA x.b.size 0 5 = cab at kAB cAB
              generalize grownCap UB x.a.size 0 5 = cba at kBA cBA
              generalize Lib.bytesWorld UA 5 x.b = UAB at kAB cAB gAB
              generalize Lib.bytesWorld UB 5 x.a = UBA at kBA cBA gBA
              have gVAB : Grew V UAB := gVA.trans' gAB
              have gVBA : Grew V UBA := gVB.trans' gBA
              have gAA : Grew UA UA := Below.refl _ _
              have gBABA : Grew UBA UBA := Below.refl _ _
              have HKB := Lib.hid (fun W => run_conv_text W x.b)
              have HCB := Lib.hid cB
              clear hdr cA cB gA0 gB0
              obtain ⟨T0, h0⟩ : ∃ T : ByteArray, S ++ ⟨#[99, 111, 112, 121, 32]⟩ = T := ⟨_, rfl⟩
              obtain ⟨T1, h1⟩ : ∃ T : ByteArray, T0 ++ H1 = T := ⟨_, rfl⟩
              obtain ⟨T2, h2⟩ : ∃ T : ByteArray, T1 ++ ⟨#[32]⟩ = T := ⟨_, rfl⟩
              obtain ⟨T3, h3⟩ : ∃ T : ByteArray, T2 ++ H2 = T := ⟨_, rfl⟩
              obtain ⟨T4, h4⟩ : ∃ T : ByteArray, T3 ++ ⟨#[10]⟩ = T := ⟨_, rfl⟩
              have s0 : T0.size = S.size + 5 := by rw [← h0, ByteArray.size_append]; rfl
              have s1 : T1.size = T0.size + H1.size := by rw [← h1, ByteArray.size_append]
              have s2 : T2.size = T1.size + 1 := by rw [← h2, ByteArray.size_append]; rfl
              have s3 : T3.size = T2.size + H2.size := by rw [← h3, ByteArray.size_append]
              have s4 : T4.size = T3.size + 1 := by rw [← h4, ByteArray.size_append]; rfl
              have hT4 : T4.data.toList = S1.data.toList ++ (m.take (k + 1)).flatMap copyL := by
                rw [← h4, ← h3, ← h2, ← h1, ← h0, hnx]
                simp only [append_list, hH1l, hH2l, hS.out, copyL, copyB, List.append_assoc]
                try rfl
              have n0 : ¬ 9223372036854775807 < S.size + 5 := by omega
              have n1 : ¬ 9223372036854775807 < T0.size + H1.size := by omega
              have n2 : ¬ 9223372036854775807 < T1.size + 1 := by omega
              have n3 : ¬ 9223372036854775807 < T2.size + H2.size := by omega
              have n4 : ¬ 9223372036854775807 < T3.size + 1 := by omega
              have HT4 := Lib.hid hT4
              clear rx hnx hle1 hH1 hH1l hH1s hH2 hH2l hH2s s0 s1 s2 s3 s4 hT4 hS hx hSl hS1b
              go_wp2
              refine wp_region_held_drew (S := fun w' => Grew V w') (by kernel_rfl) (by (first | assumption | exact Below.drew (by assumption) | exact Grew.trans' (by assumption) (by assumption) | exact Grew.trans' (by assumption) (bytesWorld_grew _ _))) (fun hHeld => ?_)
              first
                | (refine wpAnyH_take (i := 0) (v := ?_) rfl (by kernel_rfl) (by kernel_rfl) (by kernel_rfl) (fun _ _ _ h => h) (Or.inl ⟨by rfl, ?_⟩) (by assumption) ?_; rotate_left 1; focus (intro w hSw; (obtain ⟨hs3, hs4⟩ := two_range (bW _ hSw)); go_simp; (try with_reducible rfl)))
                | fail
              try simp only [Act.put, List.getElem_toArray, List.getElem_cons_succ, List.getElem_cons_zero, List.setIfInBounds_toArray, List.set_cons_zero, List.set_cons_succ]
              first
                | (refine wpAnyH_take (i := 1) (v := ?_) rfl (by kernel_rfl) (by kernel_rfl) (by kernel_rfl) (fun _ _ _ h => h) (Or.inl ⟨by rfl, ?_⟩) (by assumption) ?_; rotate_left 1; focus (intro w hSw; (obtain ⟨hs3, hs4⟩ := two_range (bW _ hSw)); go_simp; (try with_reducible rfl)))
                | fail
              try simp only [Act.put, List.getElem_toArray, List.getElem_cons_succ, List.getElem_cons_zero, List.setIfInBounds_toArray, List.set_cons_zero, List.set_cons_succ]
              first
                | (refine wpAnyH_take (i := 2) (v := ?_) rfl (by kernel_rfl) (by kernel_rfl) (by kernel_rfl) (fun _ _ _ h => h) (Or.inl ⟨by rfl, ?_⟩) (by assumption) ?_; rotate_left 1; focus (intro w hSw; (obtain ⟨hs3, hs4⟩ := two_range (bW _ hSw)); go_simp; (try with_reducible rfl)))
                | fail
              try simp only [Act.put, List.getElem_toArray, List.getElem_cons_succ, List.getElem_cons_zero, List.setIfInBounds_toArray, List.set_cons_zero, List.set_cons_succ]
              first
                | (refine wpAnyH_take (i := 3) (v := ?_) rfl (by kernel_rfl) (by kernel_rfl) (by kernel_rfl) (fun _ _ _ h => h) (Or.inl ⟨by rfl, ?_⟩) (by assumption) ?_; rotate_left 1; focus (intro w hSw; (obtain ⟨hs3, hs4⟩ := two_range (bW _ hSw)); go_simp; (try with_reducible rfl)))
                | fail
              try simp only [Act.put, List.getElem_toArray, List.getElem_cons_succ, List.getElem_cons_zero, List.setIfInBounds_toArray, List.set_cons_zero, List.set_cons_succ]
              first
                | (refine wpAnyH_take (i := 4) (v := ?_) rfl (by kernel_rfl) (by kernel_rfl) (by kernel_rfl) (fun _ _ _ h => h) (Or.inl ⟨by rfl, ?_⟩) (by assumption) ?_; rotate_left 1; focus (intro w hSw; (obtain ⟨hs3, hs4⟩ := two_range (bW _ hSw)); go_simp; (try with_reducible rfl)))
                | fail
              try simp only [Act.put, List.getElem_toArray, List.getElem_cons_succ, List.getElem_cons_zero, List.setIfInBounds_toArray, List.set_cons_zero, List.set_cons_succ]
              first
                | (refine wpAnyH_take (i := 5) (v := ?_) rfl (by kernel_rfl) (by kernel_rfl) (by kernel_rfl) (fun _ _ _ h => h) (Or.inl ⟨by rfl, ?_⟩) (by assumption) ?_; rotate_left 1; focus (intro w hSw; (obtain ⟨hs3, hs4⟩ := two_range (bW _ hSw)); go_simp; (try with_reducible rfl)))
                | fail
              try simp only [Act.put, List.getElem_toArray, List.getElem_cons_succ, List.getElem_cons_zero, List.setIfInBounds_toArray, List.set_cons_zero, List.set_cons_succ]
              first
                | (refine wpAnyH_take (i := 6) (v := ?_) rfl (by kernel_rfl) (by kernel_rfl) (by kernel_rfl) (fun _ _ _ h => h) (Or.inl ⟨by rfl, ?_⟩) (by assumption) ?_; rotate_left 1; focus (intro w hSw; (obtain ⟨hs3, hs4⟩ := two_range (bW _ hSw)); go_simp; (try with_reducible rfl)))
                | fail
              try simp only [Act.put, List.getElem_toArray, List.getElem_cons_succ, List.getElem_cons_zero, List.setIfInBounds_toArray, List.set_cons_zero, List.set_cons_succ]
              first
                | (refine wpAnyH_take (i := 11) (v := ?_) rfl (by kernel_rfl) (by kernel_rfl) (by kernel_rfl) (fun _ _ _ h => h) (Or.inl ⟨by rfl, ?_⟩) (by assumption) ?_; rotate_left 1; focus (intro w hSw; (obtain ⟨hs3, hs4⟩ := two_range (bW _ hSw)); go_simp; (try with_reducible rfl)))
                | fail
              try simp only [Act.put, List.getElem_toArray, List.getElem_cons_succ, List.getElem_cons_zero, List.setIfInBounds_toArray, List.set_cons_zero, List.set_cons_succ]
              first
                | (refine wpAnyH_take (i := 12) (v := ?_) rfl (by kernel_rfl) (by kernel_rfl) (by kernel_rfl) (fun _ _ _ h => h) (Or.inl ⟨by rfl, ?_⟩) (by assumption) ?_; rotate_left 1; focus (intro w hSw; (obtain ⟨hs3, hs4⟩ := two_range (bW _ hSw)); go_simp; (try with_reducible rfl)))
                | fail
              try simp only [Act.put, List.getElem_toArray, List.getElem_cons_succ, List.getElem_cons_zero, List.setIfInBounds_toArray, List.set_cons_zero, List.set_cons_succ]
              first
                | (refine wpAnyH_take (i := 13) (v := ?_) rfl (by kernel_rfl) (by kernel_rfl) (by kernel_rfl) (fun _ _ _ h => h) (Or.inl ⟨by rfl, ?_⟩) (by assumption) ?_; rotate_left 1; focus (intro w hSw; (obtain ⟨hs3, hs4⟩ := two_range (bW _ hSw)); go_simp; (try with_reducible rfl)))
                | fail
              try simp only [Act.put, List.getElem_toArray, List.getElem_cons_succ, List.getElem_cons_zero, List.setIfInBounds_toArray, List.set_cons_zero, List.set_cons_succ]
              first
                | (refine wpAnyH_take (i := 14) (v := ?_) rfl (by kernel_rfl) (by kernel_rfl) (by kernel_rfl) (fun _ _ _ h => h) (Or.inl ⟨by rfl, ?_⟩) (by assumption) ?_; rotate_left 1; focus (intro w hSw; (obtain ⟨hs3, hs4⟩ := two_range (bW _ hSw)); go_simp; (try with_reducible rfl)))
                | fail
              try simp only [Act.put, List.getElem_toArray, List.getElem_cons_succ, List.getElem_cons_zero, List.setIfInBounds_toArray, List.set_cons_zero, List.set_cons_succ]
              first
                | (refine wpAnyH_take (i := 15) (v := ?_) rfl (by kernel_rfl) (by kernel_rfl) (by kernel_rfl) (fun _ _ _ h => h) (Or.inl ⟨by rfl, ?_⟩) (by assumption) ?_; rotate_left 1; focus (intro w hSw; (obtain ⟨hs3, hs4⟩ := two_range (bW _ hSw)); go_simp; (try with_reducible rfl)))
                | fail
              try simp only [Act.put, List.getElem_toArray, List.getElem_cons_succ, List.getElem_cons_zero, List.setIfInBounds_toArray, List.set_cons_zero, List.set_cons_succ]
              refine wpAnyH_ready (rs := [7, 16]) (by kernel_rfl) (by simp) ?_
              refine AllReadyH.cons rfl (fun K hK => ?_) (AllReadyH.cons rfl (fun K hK => ?_) AllReadyH.nil)
              · go_simp
                skip
                go_wp2_with fail
                refine hK.out _ _ (by (first | assumption | exact Below.drew (by assumption) | exact Grew.trans' (by assumption) (by assumption) | exact Grew.trans' (by assumption) (bytesWorld_grew _ _))) (fun hHeld => ?_)
                clear hK K
                try simp only [Act.put, List.getElem_toArray, List.getElem_cons_succ, List.getElem_cons_zero, List.setIfInBounds_toArray, List.set_cons_zero, List.set_cons_succ]
                refine wpAnyH_ready (rs := [8, 16]) (by kernel_rfl) (by simp) ?_
                refine AllReadyH.cons rfl (fun K hK => ?_) (AllReadyH.cons rfl (fun K hK => ?_) AllReadyH.nil)
                · go_simp
                  (go_at_call 27; (first | (with_reducible refine (cA0 _ (by assumption)).mono ?_) | (with_reducible refine (cBA _ (by assumption)).mono ?_)); rintro e1 W2 ⟨rfl, g1⟩; have gV1 : Grew V W2 := Grew.trans' (by assumption) g1; (try have gB1 : Grew UB W2 := Grew.trans' gBA g1); clear kA0 kB0 kAB kBA)
                  go_wp2_with fail
                  refine hK.out _ _ (by (first | assumption | exact Below.drew (by assumption) | exact Grew.trans' (by assumption) (by assumption) | exact Grew.trans' (by assumption) (bytesWorld_grew _ _))) (fun hHeld => ?_)
                  clear hK K
                  try simp only [Act.put, List.getElem_toArray, List.getElem_cons_succ, List.getElem_cons_zero, List.setIfInBounds_toArray, List.set_cons_zero, List.set_cons_succ]
                  first
                    | (refine wpAnyH_take (i := 9) (v := ?_) rfl (by kernel_rfl) (by kernel_rfl) (by kernel_rfl) (fun _ _ _ h => h) (Or.inl ⟨by rfl, ?_⟩) (by assumption) ?_; rotate_left 1; focus (intro w hSw; (obtain ⟨hs3, hs4⟩ := two_range (bW _ hSw)); go_simp; (try with_reducible rfl)))
                    | fail
                  try simp only [Act.put, List.getElem_toArray, List.getElem_cons_succ, List.getElem_cons_zero, List.setIfInBounds_toArray, List.set_cons_zero, List.set_cons_succ]
                  first
                    | (refine wpAnyH_take (i := 10) (v := ?_) rfl (by kernel_rfl) (by kernel_rfl) (by kernel_rfl) (fun _ _ _ h => h) (Or.inl ⟨by rfl, ?_⟩) (by assumption) ?_; rotate_left 1; focus (intro w hSw; (obtain ⟨hs3, hs4⟩ := two_range (bW _ hSw)); go_simp; (try with_reducible rfl)))
                    | fail
                  try simp only [Act.put, List.getElem_toArray, List.getElem_cons_succ, List.getElem_cons_zero, List.setIfInBounds_toArray, List.set_cons_zero, List.set_cons_succ]
                  try have kBW := HKB.out W2
                  refine wpAnyH_ready (rs := [16]) (by kernel_rfl) (by simp) ?_
                  refine AllReadyH.cons rfl (fun K hK => ?_) AllReadyH.nil
                  go_simp
                  skip
                  go_wp2_with fail
                  refine hK.out _ _ (by (first | assumption | exact Below.drew (by assumption) | exact Grew.trans' (by assumption) (by assumption) | exact Grew.trans' (by assumption) (bytesWorld_grew _ _))) (fun hHeld => ?_)
                  clear hK K
                  try simp only [Act.put, List.getElem_toArray, List.getElem_cons_succ, List.getElem_cons_zero, List.setIfInBounds_toArray, List.set_cons_zero, List.set_cons_succ]
                  refine wpAnyH_ready (rs := [17]) (by kernel_rfl) (by simp) ?_
                  refine AllReadyH.cons rfl (fun K hK => ?_) AllReadyH.nil
                  go_simp
                  (go_at_call 27; (first | (with_reducible refine (cAB _ (by assumption)).mono ?_) | (with_reducible refine (cB0 _ (by assumption)).mono ?_) | (with_reducible refine (HCB.out W2 _ (Below.refl _ _)).mono ?_)); rintro e2 W3 ⟨rfl, g2⟩; have gV2 : Grew V W3 := Grew.trans' (by first | assumption | exact Grew.trans' (by assumption) (bytesWorld_grew _ _)) g2)
                  go_wp2_with fail
                  refine hK.out _ _ (by (first | assumption | exact Below.drew (by assumption) | exact Grew.trans' (by assumption) (by assumption) | exact Grew.trans' (by assumption) (bytesWorld_grew _ _))) (fun hHeld => ?_)
                  clear hK K
                  try simp only [Act.put, List.getElem_toArray, List.getElem_cons_succ, List.getElem_cons_zero, List.setIfInBounds_toArray, List.set_cons_zero, List.set_cons_succ]
                  first
                    | (refine wpAnyH_take (i := 18) (v := ?_) rfl (by kernel_rfl) (by kernel_rfl) (by kernel_rfl) (fun _ _ _ h => h) (Or.inl ⟨by rfl, ?_⟩) (by assumption) ?_; rotate_left 1; focus (intro w hSw; (obtain ⟨hs3, hs4⟩ := two_range (bW _ hSw)); go_simp; (try with_reducible rfl)))
                    | fail
                  try simp only [Act.put, List.getElem_toArray, List.getElem_cons_succ, List.getElem_cons_zero, List.setIfInBounds_toArray, List.set_cons_zero, List.set_cons_succ]
                  first
                    | (refine wpAnyH_take (i := 19) (v := ?_) rfl (by kernel_rfl) (by kernel_rfl) (by kernel_rfl) (fun _ _ _ h => h) (Or.inl ⟨by rfl, ?_⟩) (by assumption) ?_; rotate_left 1; focus (intro w hSw; (obtain ⟨hs3, hs4⟩ := two_range (bW _ hSw)); go_simp; (try with_reducible rfl)))
                    | fail
                  try simp only [Act.put, List.getElem_toArray, List.getElem_cons_succ, List.getElem_cons_zero, List.setIfInBounds_toArray, List.set_cons_zero, List.set_cons_succ]
                  first
                    | (refine wpAnyH_take (i := 20) (v := ?_) rfl (by kernel_rfl) (by kernel_rfl) (by kernel_rfl) (fun _ _ _ h => h) (Or.inl ⟨by rfl, ?_⟩) (by assumption) ?_; rotate_left 1; focus (intro w hSw; (obtain ⟨hs3, hs4⟩ := two_range (bW _ hSw)); go_simp; (try with_reducible rfl)))
                    | fail
                  try simp only [Act.put, List.getElem_toArray, List.getElem_cons_succ, List.getElem_cons_zero, List.setIfInBounds_toArray, List.set_cons_zero, List.set_cons_succ]
                  refine wpAnyH_done (by kernel_rfl) ?_ _
                  go_wp2
                  go_roundw
                  case rel => exact ⟨k + 1, T4, by first | rfl | assumption, by go_num, by omega, hb.trans' (by assumption), HT4⟩
                  case measure => simp [intOf]; omega
                · go_simp
                  skip
                  go_wp2_with fail
                  refine hK.out _ _ (by (first | assumption | exact Below.drew (by assumption) | exact Grew.trans' (by assumption) (by assumption) | exact Grew.trans' (by assumption) (bytesWorld_grew _ _))) (fun hHeld => ?_)
                  clear hK K
                  try simp only [Act.put, List.getElem_toArray, List.getElem_cons_succ, List.getElem_cons_zero, List.setIfInBounds_toArray, List.set_cons_zero, List.set_cons_succ]
                  refine wpAnyH_ready (rs := [8]) (by kernel_rfl) (by simp) ?_
                  refine AllReadyH.cons rfl (fun K hK => ?_) AllReadyH.nil
                  go_simp
                  (go_at_call 27; (first | (with_reducible refine (cA0 _ (by assumption)).mono ?_) | (with_reducible refine (cBA _ (by assumption)).mono ?_)); rintro e1 W2 ⟨rfl, g1⟩; have gV1 : Grew V W2 := Grew.trans' (by assumption) g1; (try have gB1 : Grew UB W2 := Grew.trans' gBA g1); clear kA0 kB0 kAB kBA)
                  go_wp2_with fail
                  refine hK.out _ _ (by (first | assumption | exact Below.drew (by assumption) | exact Grew.trans' (by assumption) (by assumption) | exact Grew.trans' (by assumption) (bytesWorld_grew _ _))) (fun hHeld => ?_)
                  clear hK K
                  try simp only [Act.put, List.getElem_toArray, List.getElem_cons_succ, List.getElem_cons_zero, List.setIfInBounds_toArray, List.set_cons_zero, List.set_cons_succ]
                  first
                    | (refine wpAnyH_take (i := 9) (v := ?_) rfl (by kernel_rfl) (by kernel_rfl) (by kernel_rfl) (fun _ _ _ h => h) (Or.inl ⟨by rfl, ?_⟩) (by assumption) ?_; rotate_left 1; focus (intro w hSw; (obtain ⟨hs3, hs4⟩ := two_range (bW _ hSw)); go_simp; (try with_reducible rfl)))
                    | fail
                  try simp only [Act.put, List.getElem_toArray, List.getElem_cons_succ, List.getElem_cons_zero, List.setIfInBounds_toArray, List.set_cons_zero, List.set_cons_succ]
                  first
                    | (refine wpAnyH_take (i := 10) (v := ?_) rfl (by kernel_rfl) (by kernel_rfl) (by kernel_rfl) (fun _ _ _ h => h) (Or.inl ⟨by rfl, ?_⟩) (by assumption) ?_; rotate_left 1; focus (intro w hSw; (obtain ⟨hs3, hs4⟩ := two_range (bW _ hSw)); go_simp; (try with_reducible rfl)))
                    | fail
                  try simp only [Act.put, List.getElem_toArray, List.getElem_cons_succ, List.getElem_cons_zero, List.setIfInBounds_toArray, List.set_cons_zero, List.set_cons_succ]
                  refine wpAnyH_ready (rs := [17]) (by kernel_rfl) (by simp) ?_
                  refine AllReadyH.cons rfl (fun K hK => ?_) AllReadyH.nil
                  go_simp
                  (go_at_call 27; (first | (with_reducible refine (cAB _ (by assumption)).mono ?_) | (with_reducible refine (cB0 _ (by assumption)).mono ?_) | (with_reducible refine (HCB.out W2 _ (Below.refl _ _)).mono ?_)); rintro e2 W3 ⟨rfl, g2⟩; have gV2 : Grew V W3 := Grew.trans' (by first | assumption | exact Grew.trans' (by assumption) (bytesWorld_grew _ _)) g2)
                  go_wp2_with fail
                  refine hK.out _ _ (by (first | assumption | exact Below.drew (by assumption) | exact Grew.trans' (by assumption) (by assumption) | exact Grew.trans' (by assumption) (bytesWorld_grew _ _))) (fun hHeld => ?_)
                  clear hK K
                  try simp only [Act.put, List.getElem_toArray, List.getElem_cons_succ, List.getElem_cons_zero, List.setIfInBounds_toArray, List.set_cons_zero, List.set_cons_succ]
                  first
                    | (refine wpAnyH_take (i := 18) (v := ?_) rfl (by kernel_rfl) (by kernel_rfl) (by kernel_rfl) (fun _ _ _ h => h) (Or.inl ⟨by rfl, ?_⟩) (by assumption) ?_; rotate_left 1; focus (intro w hSw; (obtain ⟨hs3, hs4⟩ := two_range (bW _ hSw)); go_simp; (try with_reducible rfl)))
                    | fail
                  try simp only [Act.put, List.getElem_toArray, List.getElem_cons_succ, List.getElem_cons_zero, List.setIfInBounds_toArray, List.set_cons_zero, List.set_cons_succ]
                  first
                    | (refine wpAnyH_take (i := 19) (v := ?_) rfl (by kernel_rfl) (by kernel_rfl) (by kernel_rfl) (fun _ _ _ h => h) (Or.inl ⟨by rfl, ?_⟩) (by assumption) ?_; rotate_left 1; focus (intro w hSw; (obtain ⟨hs3, hs4⟩ := two_range (bW _ hSw)); go_simp; (try with_reducible rfl)))
                    | fail
                  try simp only [Act.put, List.getElem_toArray, List.getElem_cons_succ, List.getElem_cons_zero, List.setIfInBounds_toArray, List.set_cons_zero, List.set_cons_succ]
                  first
                    | (refine wpAnyH_take (i := 20) (v := ?_) rfl (by kernel_rfl) (by kernel_rfl) (by kernel_rfl) (fun _ _ _ h => h) (Or.inl ⟨by rfl, ?_⟩) (by assumption) ?_; rotate_left 1; focus (intro w hSw; (obtain ⟨hs3, hs4⟩ := two_range (bW _ hSw)); go_simp; (try with_reducible rfl)))
                    | fail
                  try simp only [Act.put, List.getElem_toArray, List.getElem_cons_succ, List.getElem_cons_zero, List.setIfInBounds_toArray, List.set_cons_zero, List.set_cons_succ]
                  refine wpAnyH_done (by kernel_rfl) ?_ _
                  go_wp2
                  go_roundw
                  case rel => exact ⟨k + 1, T4, by first | rfl | assumption, by go_num, by omega, hb.trans' (by assumption), HT4⟩
                  case measure => simp [intOf]; omega
              · go_simp
                skip
                go_wp2_with fail
                refine hK.out _ _ (by (first | assumption | exact Below.drew (by assumption) | exact Grew.trans' (by assumption) (by assumption) | exact Grew.trans' (by assumption) (bytesWorld_grew _ _))) (fun hHeld => ?_)
                clear hK K
                try simp only [Act.put, List.getElem_toArray, List.getElem_cons_succ, List.getElem_cons_zero, List.setIfInBounds_toArray, List.set_cons_zero, List.set_cons_succ]
                refine wpAnyH_ready (rs := [7]) (by kernel_rfl) (by simp) ?_
                refine AllReadyH.cons rfl (fun K hK => ?_) AllReadyH.nil
                go_simp
                skip
                go_wp2_with fail
                refine hK.out _ _ (by (first | assumption | exact Below.drew (by assumption) | exact Grew.trans' (by assumption) (by assumption) | exact Grew.trans' (by assumption) (bytesWorld_grew _ _))) (fun hHeld => ?_)
                clear hK K
                try simp only [Act.put, List.getElem_toArray, List.getElem_cons_succ, List.getElem_cons_zero, List.setIfInBounds_toArray, List.set_cons_zero, List.set_cons_succ]
                refine wpAnyH_ready (rs := [8]) (by kernel_rfl) (by simp) ?_
                refine AllReadyH.cons rfl (fun K hK => ?_) AllReadyH.nil
                go_simp
                (go_at_call 27; (first | (with_reducible refine (cA0 _ (by assumption)).mono ?_) | (with_reducible refine (cBA _ (by assumption)).mono ?_)); rintro e1 W2 ⟨rfl, g1⟩; have gV1 : Grew V W2 := Grew.trans' (by assumption) g1; (try have gB1 : Grew UB W2 := Grew.trans' gBA g1); clear kA0 kB0 kAB kBA)
                go_wp2_with fail
                refine hK.out _ _ (by (first | assumption | exact Below.drew (by assumption) | exact Grew.trans' (by assumption) (by assumption) | exact Grew.trans' (by assumption) (bytesWorld_grew _ _))) (fun hHeld => ?_)
                clear hK K
                try simp only [Act.put, List.getElem_toArray, List.getElem_cons_succ, List.getElem_cons_zero, List.setIfInBounds_toArray, List.set_cons_zero, List.set_cons_succ]
                first
                  | (refine wpAnyH_take (i := 9) (v := ?_) rfl (by kernel_rfl) (by kernel_rfl) (by kernel_rfl) (fun _ _ _ h => h) (Or.inl ⟨by rfl, ?_⟩) (by assumption) ?_; rotate_left 1; focus (intro w hSw; (obtain ⟨hs3, hs4⟩ := two_range (bW _ hSw)); go_simp; (try with_reducible rfl)))
                  | fail
                try simp only [Act.put, List.getElem_toArray, List.getElem_cons_succ, List.getElem_cons_zero, List.setIfInBounds_toArray, List.set_cons_zero, List.set_cons_succ]
                first
                  | (refine wpAnyH_take (i := 10) (v := ?_) rfl (by kernel_rfl) (by kernel_rfl) (by kernel_rfl) (fun _ _ _ h => h) (Or.inl ⟨by rfl, ?_⟩) (by assumption) ?_; rotate_left 1; focus (intro w hSw; (obtain ⟨hs3, hs4⟩ := two_range (bW _ hSw)); go_simp; (try with_reducible rfl)))
                  | fail
                try simp only [Act.put, List.getElem_toArray, List.getElem_cons_succ, List.getElem_cons_zero, List.setIfInBounds_toArray, List.set_cons_zero, List.set_cons_succ]
                refine wpAnyH_ready (rs := [17]) (by kernel_rfl) (by simp) ?_
                refine AllReadyH.cons rfl (fun K hK => ?_) AllReadyH.nil
                go_simp
                (go_at_call 27; (first | (with_reducible refine (cAB _ (by assumption)).mono ?_) | (with_reducible refine (cB0 _ (by assumption)).mono ?_) | (with_reducible refine (HCB.out W2 _ (Below.refl _ _)).mono ?_)); rintro e2 W3 ⟨rfl, g2⟩; have gV2 : Grew V W3 := Grew.trans' (by first | assumption | exact Grew.trans' (by assumption) (bytesWorld_grew _ _)) g2)
                go_wp2_with fail
                refine hK.out _ _ (by (first | assumption | exact Below.drew (by assumption) | exact Grew.trans' (by assumption) (by assumption) | exact Grew.trans' (by assumption) (bytesWorld_grew _ _))) (fun hHeld => ?_)
                clear hK K
                try simp only [Act.put, List.getElem_toArray, List.getElem_cons_succ, List.getElem_cons_zero, List.setIfInBounds_toArray, List.set_cons_zero, List.set_cons_succ]
                first
                  | (refine wpAnyH_take (i := 18) (v := ?_) rfl (by kernel_rfl) (by kernel_rfl) (by kernel_rfl) (fun _ _ _ h => h) (Or.inl ⟨by rfl, ?_⟩) (by assumption) ?_; rotate_left 1; focus (intro w hSw; (obtain ⟨hs3, hs4⟩ := two_range (bW _ hSw)); go_simp; (try with_reducible rfl)))
                  | fail
                try simp only [Act.put, List.getElem_toArray, List.getElem_cons_succ, List.getElem_cons_zero, List.setIfInBounds_toArray, List.set_cons_zero, List.set_cons_succ]
                first
                  | (refine wpAnyH_take (i := 19) (v := ?_) rfl (by kernel_rfl) (by kernel_rfl) (by kernel_rfl) (fun _ _ _ h => h) (Or.inl ⟨by rfl, ?_⟩) (by assumption) ?_; rotate_left 1; focus (intro w hSw; (obtain ⟨hs3, hs4⟩ := two_range (bW _ hSw)); go_simp; (try with_reducible rfl)))
                  | fail
                try simp only [Act.put, List.getElem_toArray, List.getElem_cons_succ, List.getElem_cons_zero, List.setIfInBounds_toArray, List.set_cons_zero, List.set_cons_succ]
                first
                  | (refine wpAnyH_take (i := 20) (v := ?_) rfl (by kernel_rfl) (by kernel_rfl) (by kernel_rfl) (fun _ _ _ h => h) (Or.inl ⟨by rfl, ?_⟩) (by assumption) ?_; rotate_left 1; focus (intro w hSw; (obtain ⟨hs3, hs4⟩ := two_range (bW _ hSw)); go_simp; (try with_reducible rfl)))
                  | fail
                try simp only [Act.put, List.getElem_toArray, List.getElem_cons_succ, List.getElem_cons_zero, List.setIfInBounds_toArray, List.set_cons_zero, List.set_cons_succ]
                refine wpAnyH_done (by kernel_rfl) ?_ _
                go_wp2
                go_roundw
                case rel => exact ⟨k + 1, T4, by first | rfl | assumption, by go_num, by omega, hb.trans' (by assumption), HT4⟩
                case measure => simp [intOf]; omega
            · obtain rfl : k = m.length := by omega
              have hfin : S.data.toList = M0.data.toList ++ trailerP l m := by
                rw [hS.out, List.take_length, HSS.out, HT0.out, List.append_assoc]
              have hpv := HWH.out
              have hSl2 : S.size = (M0.data.toList ++ trailerP l m).length := by rw [← hfin]; exact Array.length_toList.symm
              rw [← hSl2, ← hfin] at hpv
              have hSS : (⟨S.data.toList.toArray⟩ : ByteArray) = S := by simp
              have hN' := HN.out
              have hNN := HN0.out
              have hsm : S.size ≤ 9223372036854775807 := by
                have h1 := HSZ.out
                have h2 := HM0S.out
                have h3 : (M0.data.toList ++ trailerP l m).length = M0.size + ((l.flatMap extraL).length + (m.flatMap copyL).length) := by
                  rw [HT0.out, List.length_append, List.length_append]; rfl
                omega
              have hadd : IntKind.i64.wrap ((l.length : Int) + (m.length : Int)) = (l.length : Int) + (m.length : Int) := IntWalk.i64_in _ (by omega)
              clear hSl2 hfin
              by_cases hn : 0 < N
              · have d1 : decide (0 < l.length + m.length) = true := decide_eq_true (by omega)
                have d2 : decide ((0 : Int) < (l.length : Int) + (m.length : Int)) = true := decide_eq_true (by omega)
                by_cases h32 : 32768 < S.size
                · rw [if_pos ⟨hn, h32⟩] at hpv
                  have d3 : decide (32768 < S.size) = true := decide_eq_true h32
                  have d4 : decide ((32768 : Int) < (S.size : Int)) = true := decide_eq_true (by omega)
                  have HPV := Lib.hid hpv
                  clear hpv hSS hN' hNN h32 hn hsm
                  go_wp2
                  go_ret2
                  rw [HPV.out]
                  exact ⟨rfl, hb⟩
                · rw [if_neg (fun h => h32 h.2)] at hpv
                  have d3 : decide (32768 < S.size) = false := decide_eq_false h32
                  have d4 : decide ((32768 : Int) < (S.size : Int)) = false := decide_eq_false (by omega)
                  have HPV := Lib.hid hpv
                  clear hpv hSS hN' hNN h32 hn hsm
                  go_wp2
                  go_ret2
                  rw [HPV.out]
                  exact ⟨by simp, hb⟩
              · rw [if_neg (fun h => hn h.1)] at hpv
                have d1 : decide (0 < l.length + m.length) = false := decide_eq_false (by omega)
                have d2 : decide ((0 : Int) < (l.length : Int) + (m.length : Int)) = false := decide_eq_false (by omega)
                have HPV := Lib.hid hpv
                clear hpv hSS hN' hNN hn hsm
                go_wp2
                go_ret2
                rw [HPV.out]
                exact ⟨by simp, hb⟩

end Go.Proofs.YtkdmhflcpfekfaaDoor

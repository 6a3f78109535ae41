/- The reference's Mark and Ref of layer 25: a ref's bookmark, and a bookmark's ref. Conditions: the library's tables are laid, the texts are at most 2^38 bytes long. -/
import Derived.Test.YtdiimbaibfmadaaDoorNames1
namespace Go.Proofs.YtdiimbaibfmadaaDoor
set_option linter.unusedVariables false
set_option linter.unusedSimpArgs false
open Go.RowKit

set_option maxRecDepth 100000 in
set_option maxHeartbeats 1000000 in
theorem ref25_Mark (s : ByteArray) (w : World) (hs : s.size ≤ 274877906944) (hu : U8Ok w) :
    Calls Tryd.prog 10 #[.string s] w fun e w' => e = .returned (tellV (Pure.mark s.data.toList)) ∧ Grew w w' := by
  have g0 : Grew w w := Below.refl _ _
  have cR := (fun W g => ref_Right s W (by omega) (u8_grew hu g) : ∀ W, Grew w W → _)
  cases hR : Pure.right s.data.toList with
  | false =>
    have he : Pure.mark s.data.toList = none := by unfold Pure.mark; rw [if_pos hR]
    rw [he]
    rw [hR] at cR
    clear hu he hR
    go_enter Tryd.func10, Tryd.ntmps10
    go_wp2_with (first | (go_at_call 13; with_reducible refine (cR _ (by assumption)).mono ?_; rintro e1 W1 ⟨rfl, g1⟩; replace g1 := Grew.trans' (a := w) (by assumption) g1))
    go_ret2
    exact ⟨rfl, by assumption⟩
  | true =>
    rw [hR] at cR
    have cP := fun W => help_Begins s headsB W
    obtain ⟨P, hP⟩ : ∃ P, Lib.hasPrefix s.data.toList Pure.headsL = P := ⟨_, rfl⟩
    rw [show headsB.data.toList = Pure.headsL from rfl, hP] at cP
    have c2 := (fun W g => ref_Branch (otherB ++ s) W (by rw [ByteArray.size_append]; show 4 + s.size ≤ _; omega) (u8_grew hu g) : ∀ W, Grew w W → _)
    have hO : (otherB ++ s).data.toList = Pure.otherL ++ s.data.toList := by rw [append_list]; rfl
    rw [hO] at c2
    obtain ⟨B2, hB2⟩ : ∃ B, Pure.branch (Pure.otherL ++ s.data.toList) = B := ⟨_, rfl⟩
    rw [hB2] at c2
    cases P with
    | false =>
      have he : Pure.mark s.data.toList = if B2 = true then some (Pure.otherL ++ s.data.toList) else none := by
        unfold Pure.mark; rw [if_neg (by rw [hR]; simp), hP, hB2]; rfl
      have HE := Lib.hid he
      have HO := Lib.hid hO
      clear hu he hR hP hB2 hO
      cases B2
      all_goals
        go_enter Tryd.func10, Tryd.ntmps10
        go_wp2_with (first | (go_at_call 13; with_reducible refine (cR _ (by assumption)).mono ?_; rintro e1 W1 ⟨rfl, g1⟩; replace g1 := Grew.trans' (a := w) (by assumption) g1) | (go_at_call 18; with_reducible refine (cP _).mono ?_; rintro e1 W1 ⟨rfl, h1⟩; subst W1) | (go_at_call 9; with_reducible refine (c2 _ (by assumption)).mono ?_; rintro e1 W1 ⟨rfl, g1⟩; replace g1 := Grew.trans' (a := w) (by assumption) g1))
        go_ret2
        refine ⟨?_, by assumption⟩
        rw [HE.out]
        first | rfl | exact congrArg Ending.returned (tell_some HO.out).symm
    | true =>
      have h11 : 11 ≤ s.size := by
        have h1 := congrArg List.length (Pure.prefix_drop hP)
        have h2 : s.data.toList.length = s.size := Array.length_toList
        rw [List.length_append, h2] at h1
        have : Pure.headsL.length = 11 := rfl
        omega
      have hTd2 : (s.extract 11 s.size).data.toList = s.data.toList.drop 11 := Lib.extract_to_end s 11
      have hTl : (s.extract 11 s.size).size ≤ 274877906944 := by rw [ByteArray.size_extract]; omega
      obtain ⟨T, hT⟩ : ∃ T, s.extract 11 s.size = T := ⟨_, rfl⟩
      have c1 := (fun W g => ref_Branch (s.extract 11 s.size) W (by omega) (u8_grew hu g) : ∀ W, Grew w W → _)
      have c3 := fun W => help_Begins (s.extract 11 s.size) otherB W
      rw [hTd2] at c1
      rw [hTd2, show otherB.data.toList = Pure.otherL from rfl] at c3
      obtain ⟨B1, hB1⟩ : ∃ B, Pure.branch (s.data.toList.drop 11) = B := ⟨_, rfl⟩
      obtain ⟨O, hO1⟩ : ∃ B, Lib.hasPrefix (s.data.toList.drop 11) Pure.otherL = B := ⟨_, rfl⟩
      rw [hB1] at c1
      rw [hO1] at c3
      have he : Pure.mark s.data.toList = if (B1 && !O) = true then some (s.data.toList.drop 11) else if B2 = true then some (Pure.otherL ++ s.data.toList) else none := by
        unfold Pure.mark; rw [if_neg (by rw [hR]; simp), hP, hB1, hO1, hB2]; rfl
      have HE := Lib.hid he
      have HO := Lib.hid hO
      have HT := Lib.hid hTd2
      clear hu he hR hP hB2 hO hB1 hO1 hTd2 hTl hT T
      cases B1 <;> cases O <;> cases B2
      all_goals
        go_enter Tryd.func10, Tryd.ntmps10
        go_wp2_with (first | (go_at_call 13; with_reducible refine (cR _ (by assumption)).mono ?_; rintro e1 W1 ⟨rfl, g1⟩; replace g1 := Grew.trans' (a := w) (by assumption) g1) | (go_at_call 18; with_reducible refine (cP _).mono ?_; rintro e1 W1 ⟨rfl, h1⟩; subst W1) | (go_at_call 18; with_reducible refine (c3 _).mono ?_; rintro e1 W1 ⟨rfl, h1⟩; subst W1) | (go_at_call 9; with_reducible refine (c1 _ (by assumption)).mono ?_; rintro e1 W1 ⟨rfl, g1⟩; replace g1 := Grew.trans' (a := w) (by assumption) g1) | (go_at_call 9; with_reducible refine (c2 _ (by assumption)).mono ?_; rintro e1 W1 ⟨rfl, g1⟩; replace g1 := Grew.trans' (a := w) (by assumption) g1))
        go_ret2
        refine ⟨?_, by assumption⟩
        rw [HE.out]
        first | rfl | exact congrArg Ending.returned (tell_some HO.out).symm | exact congrArg Ending.returned (tell_some HT.out).symm

set_option maxRecDepth 100000 in
set_option maxHeartbeats 1000000 in
theorem ref25_Ref (m : ByteArray) (w : World) (hs : m.size ≤ 137438953472) (hu : U8Ok w) :
    Calls Tryd.prog 12 #[.string m] w fun e w' => e = .returned (tellV (Pure.refOf m.data.toList)) ∧ Grew w w' := by
  have g0 : Grew w w := Below.refl _ _
  have hml : m.data.toList.length = m.size := Array.length_toList
  have htries := Pure.tries m.data.toList
  have HT := Lib.hid htries
  clear htries
  go_enter Tryd.func12, Tryd.ntmps12
  go_wp2
  have gA : Grew w (w.alloc (.cells #[.string (headsB ++ m), .string m] 9)) := (Below.refl _ _).alloc (Nat.le_refl _) _
  have hblk : (w.alloc (.cells #[.string (headsB ++ m), .string m] 9)).heap[w.heap.size]? = some (.cells #[.string (headsB ++ m), .string m] 9 (0, 0)) := heap_alloc_new w _
  generalize hWA : World.alloc w _ = WA at gA hblk ⊢
  clear hWA
  have huA : U8Ok WA := u8_grew hu gA
  generalize w.heap.size = gb at hblk ⊢
  go_loopw [13] (fun i wr => ∃ k : Nat, i = .int .i64 (k : Int) ∧ k ≤ 2 ∧ Grew WA wr ∧ Hid ((1 ≤ k → Pure.tryR m.data.toList (Pure.headsL ++ m.data.toList) = none) ∧ (2 ≤ k → Pure.tryR m.data.toList m.data.toList = none))) (fun i _ => 2 - (intOf i).toNat)
  case atStart => exact ⟨0, rfl, by omega, Below.refl _ _, ⟨by omega, by omega⟩⟩
  case round =>
    obtain ⟨k, rfl, hk, hb, hres⟩ := hrel
    by_cases hk2 : k < 2
    · have hS : ∃ S : ByteArray, wr.cell? ⟨gb, k, none⟩ = some (.string S) ∧ S.size ≤ 137438953483 ∧ (∀ r, Pure.tryR m.data.toList S.data.toList = some r → Pure.refOf m.data.toList = some r) ∧
          (Pure.tryR m.data.toList S.data.toList = none → Hid ((1 ≤ k + 1 → Pure.tryR m.data.toList (Pure.headsL ++ m.data.toList) = none) ∧ (2 ≤ k + 1 → Pure.tryR m.data.toList m.data.toList = none))) := by
        have hc : ∀ v, (#[Value.string (headsB ++ m), Value.string m] : Array Value)[k]? = some v → wr.cell? ⟨gb, k, none⟩ = some v := fun v hv => by
          refine cell_grew ?_ hb
          rw [cell_of_row WA gb k _ _ (0, 0) hblk]
          exact hv
        have hk01 : k = 0 ∨ k = 1 := by omega
        rcases hk01 with rfl | rfl
        · refine ⟨headsB ++ m, hc _ rfl, by rw [ByteArray.size_append]; show 11 + m.size ≤ _; omega, ?_, ?_⟩
          · intro r hr
            rw [show (headsB ++ m).data.toList = Pure.headsL ++ m.data.toList from append_list _ _] at hr
            rw [HT.out, hr]
          · intro hr
            rw [show (headsB ++ m).data.toList = Pure.headsL ++ m.data.toList from append_list _ _] at hr
            exact ⟨fun _ => hr, by omega⟩
        · refine ⟨m, hc _ rfl, by omega, ?_, ?_⟩
          · intro r hr
            rw [HT.out, hres.out.1 (by omega)]
            exact hr
          · intro hr
            exact ⟨fun _ => hres.out.1 (by omega), fun _ => hr⟩
      obtain ⟨S, hcS, hSl, hyes, hno⟩ := hS
      have cB := fun W => help_Begins S otherB W
      obtain ⟨P, hP⟩ : ∃ P, Lib.hasPrefix S.data.toList Pure.otherL = P := ⟨_, rfl⟩
      rw [show otherB.data.toList = Pure.otherL from rfl, hP] at cB
      have hSz : P = true → 4 ≤ S.size := by
        intro h
        rw [h] at hP
        have h1 := congrArg List.length (Pure.prefix_drop hP)
        have h2 : S.data.toList.length = S.size := Array.length_toList
        rw [List.length_append, h2] at h1
        have : Pure.otherL.length = 4 := rfl
        omega
      obtain ⟨R, hR⟩ : ∃ R : ByteArray, (if P = true then S.extract 4 S.size else S) = R := ⟨_, rfl⟩
      have hRd : R.data.toList = if P = true then S.data.toList.drop 4 else S.data.toList := by
        rw [← hR]
        split
        · exact Lib.extract_to_end S 4
        · rfl
      have hRl : R.size ≤ 274877906944 := by
        rw [← hR]
        split
        · rw [ByteArray.size_extract]; omega
        · omega
      have cM := (fun W g => ref25_Mark R W hRl (u8_grew huA g) : ∀ W, Grew WA W → _)
      have htr : Pure.tryR m.data.toList S.data.toList = if Pure.mark R.data.toList = some m.data.toList then some R.data.toList else none := by
        unfold Pure.tryR
        rw [hP, ← hRd]
      rw [htr] at hyes hno
      clear hblk hres htr hRd hP
      cases hM : Pure.mark R.data.toList with
      | none =>
        rw [hM] at cM hno
        rw [show tellV none = .tuple #[.string ⟨#[]⟩, .bool false] from rfl] at cM
        have hN := hno (by rw [if_neg (by simp)])
        clear hyes hno hM
        cases P
        all_goals
          simp only [if_true, Bool.false_eq_true, if_false] at hR
          subst hR
          try simp only [forall_const] at hSz
          go_wp2_with (first | (go_at_call 18; with_reducible refine (cB _).mono ?_; rintro e1 W1 ⟨rfl, h1⟩; subst W1) | (go_at_call 10; with_reducible refine (cM _ (by assumption)).mono ?_; rintro e1 W1 ⟨rfl, g1⟩; replace g1 := Grew.trans' (a := WA) (by assumption) g1))
          go_roundw
          case rel => exact ⟨k + 1, by go_num, by omega, by assumption, hN⟩
          case measure => simp [intOf]; omega
      | some x =>
        rw [hM] at cM hno hyes
        obtain ⟨X, hX⟩ : ∃ X : ByteArray, X.data.toList = x := ⟨⟨x.toArray⟩, rfl⟩
        rw [tell_some hX] at cM
        rw [← hX] at hno hyes
        by_cases hxm : X = m
        · subst hxm
          have hf := hyes R.data.toList (by rw [if_pos rfl])
          have HF := Lib.hid hf
          clear hf hyes hno hM hX
          have hself : (X.toList == X.toList) = true := by simp
          cases P
          all_goals
            simp only [if_true, Bool.false_eq_true, if_false] at hR
            subst hR
            try simp only [forall_const] at hSz
            go_wp2_with (first | (go_at_call 18; with_reducible refine (cB _).mono ?_; rintro e1 W1 ⟨rfl, h1⟩; subst W1) | (go_at_call 10; with_reducible refine (cM _ (by assumption)).mono ?_; rintro e1 W1 ⟨rfl, g1⟩; replace g1 := Grew.trans' (a := WA) (by assumption) g1))
            go_ret2
            refine ⟨?_, Grew.trans' gA (by assumption)⟩
            rw [HF.out]
            exact congrArg Ending.returned (tell_some rfl).symm
        · have hne : (X.toList == m.toList) = false := by
            rw [beq_eq_false_iff_ne]
            intro h
            rw [Lib.toList_data, Lib.toList_data] at h
            exact hxm (same_text h)
          have hN := hno (by rw [if_neg (by intro h; exact hxm (same_text (Option.some.inj h)))])
          clear hyes hno hM hX
          cases P
          all_goals
            simp only [if_true, Bool.false_eq_true, if_false] at hR
            subst hR
            try simp only [forall_const] at hSz
            go_wp2_with (first | (go_at_call 18; with_reducible refine (cB _).mono ?_; rintro e1 W1 ⟨rfl, h1⟩; subst W1) | (go_at_call 10; with_reducible refine (cM _ (by assumption)).mono ?_; rintro e1 W1 ⟨rfl, g1⟩; replace g1 := Grew.trans' (a := WA) (by assumption) g1))
            go_roundw
            case rel => exact ⟨k + 1, by go_num, by omega, by assumption, hN⟩
            case measure => simp [intOf]; omega
    · have hf := HT.out
      rw [hres.out.1 (by omega), hres.out.2 (by omega)] at hf
      have HF := Lib.hid hf
      clear hf hres HT
      go_wp2
      go_ret2
      exact ⟨by rw [HF.out]; rfl, Grew.trans' gA hb⟩

end Go.Proofs.YtdiimbaibfmadaaDoor

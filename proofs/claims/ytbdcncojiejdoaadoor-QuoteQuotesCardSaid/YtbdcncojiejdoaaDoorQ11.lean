/- The reference's Unquote. Conditions: at most 2^30 bytes; the library's tables are laid. -/
import Derived.Test.YtbdcncojiejdoaaDoorQ10
import Derived.Test.YtbdcncojiejdoaaDoorQ5
import Derived.Test.YtbdcncojiejdoaaDoorBuf
namespace Go.Proofs.YtbdcncojiejdoaaDoor
set_option linter.unusedVariables false
set_option linter.unusedSimpArgs false
open Go.RowKit

theorem stop_before : ∀ (l : List UInt8) (k : Nat), k < Pure.stopQ l → ∃ c : UInt8, l[k]? = some c ∧ ¬ (c.toNat = 32 ∨ c.toNat = 10)
  | [], k, h => by simp [Pure.stopQ] at h
  | c :: r, k, h => by
    unfold Pure.stopQ at h
    split at h
    · omega
    · next hn =>
      cases k with
      | zero => exact ⟨c, rfl, hn⟩
      | succ k => obtain ⟨d, h1, h2⟩ := stop_before r k (by omega); exact ⟨d, by simpa using h1, h2⟩
theorem stop_here : ∀ (l : List UInt8), Pure.stopQ l < l.length → ∃ c : UInt8, l[Pure.stopQ l]? = some c ∧ (c.toNat = 32 ∨ c.toNat = 10)
  | [], h => by simp [Pure.stopQ] at h
  | c :: r, h => by
    by_cases hn : c.toNat = 32 ∨ c.toNat = 10
    · have e : Pure.stopQ (c :: r) = 0 := by unfold Pure.stopQ; rw [if_pos hn]
      rw [e]; exact ⟨c, rfl, hn⟩
    · have e : Pure.stopQ (c :: r) = Pure.stopQ r + 1 := by conv => lhs; unfold Pure.stopQ; rw [if_neg hn]
      rw [e] at h ⊢
      obtain ⟨d, h1, h2⟩ := stop_here r (by simpa using h)
      exact ⟨d, by simpa using h1, h2⟩

set_option maxRecDepth 100000 in
set_option maxHeartbeats 4000000 in
/-- Where no quote begins the text. -/
theorem ref_Unquote_plain (s : ByteArray) (w : World) (hs : s.size ≤ 1073741824) (hh : s.data.toList.head? ≠ some 34) :
    Calls Tryd.prog 15 #[.string s] w fun e w' => e = .returned (plainV s) ∧ Grew w w' := by
  have hsl : s.data.toList.length = s.size := Array.length_toList
  have hle := Pure.stop_le s.data.toList
  have hbf := stop_before s.data.toList
  have hat := stop_here s.data.toList
  unfold plainV
  obtain ⟨K, hK⟩ : ∃ k, Pure.stopQ s.data.toList = k := ⟨_, rfl⟩
  rw [hK] at hle hbf hat ⊢
  obtain ⟨A, hA⟩ : ∃ A, s.extract 0 K = A := ⟨_, rfl⟩
  have hAl : A.data.toList = s.data.toList.take K := by rw [← hA, extract_listQ, List.drop_zero, Nat.sub_zero]
  have cQ := fun W (g : Grew w W) => ref_Quote A W (by rw [← hA, ByteArray.size_extract]; omega)
  rw [hAl] at cQ
  have k1 : (0 : Int) ≤ (K : Int) := by omega
  have k2 : (K : Int) ≤ (s.size : Int) := by omega
  have hq : (Pure.quoteP (s.data.toList.take K) = s.data.toList.take K ∧ (⟨(Pure.quoteP (s.data.toList.take K)).toArray⟩ : ByteArray) = A) ∨ (Pure.quoteP (s.data.toList.take K) ≠ s.data.toList.take K ∧ (⟨(Pure.quoteP (s.data.toList.take K)).toArray⟩ : ByteArray) ≠ A) := by
    by_cases h : Pure.quoteP (s.data.toList.take K) = s.data.toList.take K
    · exact .inl ⟨h, ba_extQ (by show Pure.quoteP (s.data.toList.take K) = A.data.toList; rw [h, hAl])⟩
    · exact .inr ⟨h, fun e => h ((show Pure.quoteP (s.data.toList.take K) = A.data.toList from congrArg (fun x : ByteArray => x.data.toList) e).trans hAl)⟩
  obtain ⟨Q, hQ⟩ : ∃ Q, (⟨(Pure.quoteP (s.data.toList.take K)).toArray⟩ : ByteArray) = Q := ⟨_, rfl⟩
  simp only [hQ] at cQ
  rw [hQ] at hq
  rw [hA]
  have hix := fun k c h => index_str s k c h
  have HIX := Lib.hid hix
  have HBF := Lib.hid hbf
  have HAT := Lib.hid hat
  have HSL := Lib.hid hsl
  have ways : (s.size = 0) ∨ (0 < s.size) := by omega
  have hfst : s.size = 0 ∨ ∃ c : UInt8, s.data.toList[0]? = some c ∧ c.toNat ≠ 34 ∧ 0 < s.size := by
    rcases ways with h | h
    · exact .inl h
    · obtain ⟨c, hc⟩ : ∃ c, s.data.toList[0]? = some c := ⟨_, List.getElem?_eq_getElem (by rw [hsl]; exact h)⟩
      exact .inr ⟨c, hc, fun h4 => hh (by rw [List.head?_eq_getElem?, hc, show c = 34 from UInt8.toNat_inj.1 h4]), h⟩
  clear hix hbf hat hK hAl hQ ways hh
  rcases hfst with hz | ⟨c0, hc0, hc34, hpos⟩
  · have hem : s = ⟨#[]⟩ := ba_extQ (List.eq_nil_of_length_eq_zero (by rw [hsl]; omega))
    obtain rfl : K = 0 := by rw [hsl] at hle; omega
    subst hem
    have hA0 : A = ⟨#[]⟩ := by rw [← hA]; rfl
    subst hA0
    have hp0 : (if Pure.quoteP ((⟨#[]⟩ : ByteArray).data.toList.take 0) = (⟨#[]⟩ : ByteArray).data.toList.take 0 then Value.tuple #[.string ⟨#[]⟩, .int .i64 ((0 : Nat) : Int), .int .i64 0] else .tuple #[.string ⟨#[]⟩, .int .i64 0, .int .i64 4]) = .tuple #[.string ⟨#[]⟩, .int .i64 0, .int .i64 4] := by
      rw [if_neg (by decide)]
    have hQe : Q ≠ ⟨#[]⟩ := by
      rcases hq with ⟨h1, -⟩ | ⟨-, h2⟩
      · exact absurd h1 (by decide)
      · exact h2
    have n2 : (Q.toList == (⟨#[]⟩ : ByteArray).toList) = false := by rw [beq_eq_false_iff_ne]; intro e; rw [ByteArray.toList_eq, ByteArray.toList_eq] at e; exact hQe (ba_extQ e)
    have n4 : (Q.toList != (⟨#[]⟩ : ByteArray).toList) = true := by rw [bne, n2]; rfl
    have n5 : (Q.toList == (ByteArray.empty : ByteArray).toList) = false := n2
    have n6 : (Q.toList != (ByteArray.empty : ByteArray).toList) = true := n4
    have n7 : Q.toList.isEmpty = false := by
      rw [ByteArray.toList_eq, List.isEmpty_eq_false_iff]
      intro e; exact hQe (ba_extQ e)
    have n8 : ¬ Q.toList = [] := by rw [ByteArray.toList_eq]; intro e; exact hQe (ba_extQ e)
    have n9 : ¬ Q = ByteArray.empty := hQe
    have n10 : ¬ Q = ⟨#[]⟩ := hQe
    have n11 : (Q.toList == []) = false := by rw [beq_eq_false_iff_ne]; exact n8
    rw [hp0]
    clear hp0 hq hA k1 k2 hle hsl hz hQe
    change ∀ W, Grew w W → Calls Tryd.prog 16 #[.string ByteArray.empty] W _ at cQ
    go_enter Tryd.func15, Tryd.ntmps15
    go_wp2
    go_loopw [5] (fun ii wr => ii = .int .i64 0 ∧ wr = w) (fun i _ => 0)
    case atStart => exact ⟨rfl, rfl⟩
    case round =>
      obtain ⟨rfl, rfl⟩ := hrel
      have grr : Grew wr wr := Below.refl _ _
      go_wp2
      refine wp_region_held_drew (S := fun w' => Grew wr w') (by kernel_rfl) (by first | assumption | exact Below.drew (by assumption)) (fun hHeld => ?_)
      first
        | (refine wpAnyH_take (i := 0) (v := ?_) rfl (by kernel_rfl) (by kernel_rfl) (by kernel_rfl) (fun _ _ _ h => h) (Or.inl ⟨by rfl, ?_⟩) (by assumption) ?_; rotate_left 1; focus (intro w hSw; (try dsimp only at hSw); go_simp; (try with_reducible rfl)))
        | fail
      try simp only [Act.put, List.getElem_toArray, List.getElem_cons_succ, List.getElem_cons_zero, List.setIfInBounds_toArray, List.set_cons_zero, List.set_cons_succ]
      first
        | (refine wpAnyH_take (i := 1) (v := ?_) rfl (by kernel_rfl) (by kernel_rfl) (by kernel_rfl) (fun _ _ _ h => h) (Or.inl ⟨by rfl, ?_⟩) (by assumption) ?_; rotate_left 1; focus (intro w hSw; (try dsimp only at hSw); go_simp; (try with_reducible rfl)))
        | fail
      try simp only [Act.put, List.getElem_toArray, List.getElem_cons_succ, List.getElem_cons_zero, List.setIfInBounds_toArray, List.set_cons_zero, List.set_cons_succ]
      first
        | (refine wpAnyH_take (i := 2) (v := ?_) rfl (by kernel_rfl) (by kernel_rfl) (by kernel_rfl) (fun _ _ _ h => h) (Or.inl ⟨by rfl, ?_⟩) (by assumption) ?_; rotate_left 1; focus (intro w hSw; (try dsimp only at hSw); go_simp; (try with_reducible rfl)))
        | fail
      try simp only [Act.put, List.getElem_toArray, List.getElem_cons_succ, List.getElem_cons_zero, List.setIfInBounds_toArray, List.set_cons_zero, List.set_cons_succ]
      first
        | (refine wpAnyH_take (i := 4) (v := ?_) rfl (by kernel_rfl) (by kernel_rfl) (by kernel_rfl) (fun _ _ _ h => h) (Or.inl ⟨by rfl, ?_⟩) (by assumption) ?_; rotate_left 1; focus (intro w hSw; (try dsimp only at hSw); go_simp; (try with_reducible rfl)))
        | fail
      try simp only [Act.put, List.getElem_toArray, List.getElem_cons_succ, List.getElem_cons_zero, List.setIfInBounds_toArray, List.set_cons_zero, List.set_cons_succ]
      first
        | (refine wpAnyH_take (i := 5) (v := ?_) rfl (by kernel_rfl) (by kernel_rfl) (by kernel_rfl) (fun _ _ _ h => h) (Or.inl ⟨by rfl, ?_⟩) (by assumption) ?_; rotate_left 1; focus (intro w hSw; (try dsimp only at hSw); go_simp; (try with_reducible rfl)))
        | fail
      try simp only [Act.put, List.getElem_toArray, List.getElem_cons_succ, List.getElem_cons_zero, List.setIfInBounds_toArray, List.set_cons_zero, List.set_cons_succ]
      first
        | (refine wpAnyH_take (i := 6) (v := ?_) rfl (by kernel_rfl) (by kernel_rfl) (by kernel_rfl) (fun _ _ _ h => h) (Or.inl ⟨by rfl, ?_⟩) (by assumption) ?_; rotate_left 1; focus (intro w hSw; (try dsimp only at hSw); go_simp; (try with_reducible rfl)))
        | fail
      try simp only [Act.put, List.getElem_toArray, List.getElem_cons_succ, List.getElem_cons_zero, List.setIfInBounds_toArray, List.set_cons_zero, List.set_cons_succ]
      refine wpAnyH_ready (rs := [3]) (by kernel_rfl) (by simp) ?_
      refine AllReadyH.cons rfl (fun K hK => ?_) AllReadyH.nil
      go_simp
      (go_at_call 16; with_reducible refine (cQ _ (by first | assumption | exact Below.drew (by assumption))).mono ?_; rintro e1 W1 ⟨rfl, g1⟩; replace g1 := Grew.trans' (a := wr) (by first | assumption | exact Below.drew (by assumption)) g1)
      go_wp2_with fail
      refine hK.out _ _ (by first | assumption | exact Below.drew (by assumption)) (fun hHeld => ?_)
      clear hK K
      try simp only [Act.put, List.getElem_toArray, List.getElem_cons_succ, List.getElem_cons_zero, List.setIfInBounds_toArray, List.set_cons_zero, List.set_cons_succ]
      first
        | (refine wpAnyH_take (i := 7) (v := ?_) rfl (by kernel_rfl) (by kernel_rfl) (by kernel_rfl) (fun _ _ _ h => h) (Or.inl ⟨by rfl, ?_⟩) (by assumption) ?_; rotate_left 1; focus (intro w hSw; (try dsimp only at hSw); go_simp; (try with_reducible rfl)))
        | fail
      try simp only [Act.put, List.getElem_toArray, List.getElem_cons_succ, List.getElem_cons_zero, List.setIfInBounds_toArray, List.set_cons_zero, List.set_cons_succ]
      refine wpAnyH_done (by kernel_rfl) ?_ _
      go_wp2
      all_goals
        go_ret3
        exact ⟨rfl, by assumption⟩
  · have i0 : ∀ W, (Instr.index 9 (.string s) (.int .i64 0)).run Tryd.prog W = .ok (.int .u8 (c0.toNat : Int)) W := fun W => index_str s 0 c0 hc0 W
    have hne : s.toList.isEmpty = false := not_empty hpos
    have hm : ((c0.toNat : Int) != 34) = true := by rw [bne_iff_ne]; omega
    rw [hsl] at hle
    clear hsl hc0
    have n2 : ∀ h : Q ≠ A, (Q.toList == A.toList) = false := fun h => by rw [beq_eq_false_iff_ne]; intro e; rw [ByteArray.toList_eq, ByteArray.toList_eq] at e; exact h (ba_extQ e)
    have hres : ∃ (V : Value) (B : Bool), (if Pure.quoteP (s.data.toList.take K) = s.data.toList.take K then Value.tuple #[.string A, .int .i64 ((K : Nat) : Int), .int .i64 0] else .tuple #[.string ⟨#[]⟩, .int .i64 0, .int .i64 4]) = V ∧
        ((B = false ∧ Q = A ∧ V = .tuple #[.string A, .int .i64 ((K : Nat) : Int), .int .i64 0]) ∨ (B = true ∧ (Q.toList == A.toList) = false ∧ V = .tuple #[.string ⟨#[]⟩, .int .i64 0, .int .i64 4])) := by
      rcases hq with ⟨h1, h2⟩ | ⟨h1, h2⟩
      · rw [if_pos h1]; exact ⟨_, false, rfl, .inl ⟨rfl, h2, rfl⟩⟩
      · rw [if_neg h1]; exact ⟨_, true, rfl, .inr ⟨rfl, n2 h2, rfl⟩⟩
    obtain ⟨V, B, hV, hBV⟩ := hres
    rw [hV]
    clear hV hq n2
    rcases hBV with ⟨rfl, rfl, rfl⟩ | ⟨rfl, hneq, rfl⟩
    all_goals
      go_enter Tryd.func15, Tryd.ntmps15
      go_wp2
      go_loopw [5] (fun ii wr => ∃ k : Nat, k ≤ K ∧ ii = .int .i64 (k : Int) ∧ wr = w) (fun i _ => K - (intOf i).toNat)
      case atStart => exact ⟨0, Nat.zero_le _, rfl, rfl⟩
      case round =>
        obtain ⟨k, hk, rfl, rfl⟩ := hrel
        have grr : Grew wr wr := Below.refl _ _
        by_cases hlt : k < K
        · obtain ⟨c, hc, hno⟩ := HBF.out k hlt
          have ik := fun W => HIX.out k c hc W
          have fk : decide ((k : Int) < (s.size : Int)) = true := decide_eq_true (by omega)
          have e1 : ((c.toNat : Int) != 32) = true := by rw [bne_iff_ne]; omega
          have e2 : ((c.toNat : Int) != 10) = true := by rw [bne_iff_ne]; omega
          have e3 : ((c.toNat : Int) == 32) = false := by rw [beq_eq_false_iff_ne]; omega
          have e4 : ((c.toNat : Int) == 10) = false := by rw [beq_eq_false_iff_ne]; omega
          have e5 : ¬ ((c.toNat : Int) = 32) := by omega
          have e6 : ¬ ((c.toNat : Int) = 10) := by omega
          clear hc hno
          go_wp2
          go_roundw
          case rel => exact ⟨k + 1, by omega, by go_num, trivial⟩
          case measure => simp [intOf]; omega
        · obtain rfl : k = K := by omega
          have hstop : k = s.size ∨ (k < s.size ∧ ∃ c : UInt8, s.data.toList[k]? = some c ∧ (c.toNat = 32 ∨ (c.toNat ≠ 32 ∧ c.toNat = 10))) := by
            by_cases h : k < s.size
            · obtain ⟨c, hc, h2⟩ := HAT.out (by rw [HSL.out]; exact h)
              exact .inr ⟨h, c, hc, by omega⟩
            · exact .inl (by omega)
          rcases hstop with hks | ⟨hks, c, hc, h32 | ⟨h32, h10⟩⟩
          · have fk : decide ((k : Int) < (s.size : Int)) = false := decide_eq_false (by omega)
            have hns : ¬ k < s.size := by omega
            clear hks
            go_wp2
            refine wp_region_held_drew (S := fun w' => Grew wr w') (by kernel_rfl) (by first | assumption | exact Below.drew (by assumption)) (fun hHeld => ?_)
            first
              | (refine wpAnyH_take (i := 0) (v := ?_) rfl (by kernel_rfl) (by kernel_rfl) (by kernel_rfl) (fun _ _ _ h => h) (Or.inl ⟨by rfl, ?_⟩) (by assumption) ?_; rotate_left 1; focus (intro w hSw; (try dsimp only at hSw); go_simp; (try with_reducible rfl)))
              | fail
            try simp only [Act.put, List.getElem_toArray, List.getElem_cons_succ, List.getElem_cons_zero, List.setIfInBounds_toArray, List.set_cons_zero, List.set_cons_succ]
            first
              | (refine wpAnyH_take (i := 1) (v := ?_) rfl (by kernel_rfl) (by kernel_rfl) (by kernel_rfl) (fun _ _ _ h => h) (Or.inl ⟨by rfl, ?_⟩) (by assumption) ?_; rotate_left 1; focus (intro w hSw; (try dsimp only at hSw); go_simp; (try with_reducible rfl)))
              | fail
            try simp only [Act.put, List.getElem_toArray, List.getElem_cons_succ, List.getElem_cons_zero, List.setIfInBounds_toArray, List.set_cons_zero, List.set_cons_succ]
            first
              | (refine wpAnyH_take (i := 2) (v := ?_) rfl (by kernel_rfl) (by kernel_rfl) (by kernel_rfl) (fun _ _ _ h => h) (Or.inl ⟨by rfl, ?_⟩) (by assumption) ?_; rotate_left 1; focus (intro w hSw; (try dsimp only at hSw); go_simp; (try with_reducible rfl)))
              | fail
            try simp only [Act.put, List.getElem_toArray, List.getElem_cons_succ, List.getElem_cons_zero, List.setIfInBounds_toArray, List.set_cons_zero, List.set_cons_succ]
            first
              | (refine wpAnyH_take (i := 4) (v := ?_) rfl (by kernel_rfl) (by kernel_rfl) (by kernel_rfl) (fun _ _ _ h => h) (Or.inl ⟨by rfl, ?_⟩) (by assumption) ?_; rotate_left 1; focus (intro w hSw; (try dsimp only at hSw); go_simp; (try with_reducible rfl)))
              | fail
            try simp only [Act.put, List.getElem_toArray, List.getElem_cons_succ, List.getElem_cons_zero, List.setIfInBounds_toArray, List.set_cons_zero, List.set_cons_succ]
            first
              | (refine wpAnyH_take (i := 5) (v := ?_) rfl (by kernel_rfl) (by kernel_rfl) (by kernel_rfl) (fun _ _ _ h => h) (Or.inl ⟨by rfl, ?_⟩) (by assumption) ?_; rotate_left 1; focus (intro w hSw; (try dsimp only at hSw); go_simp; (try with_reducible rfl)))
              | fail
            try simp only [Act.put, List.getElem_toArray, List.getElem_cons_succ, List.getElem_cons_zero, List.setIfInBounds_toArray, List.set_cons_zero, List.set_cons_succ]
            first
              | (refine wpAnyH_take (i := 6) (v := ?_) rfl (by kernel_rfl) (by kernel_rfl) (by kernel_rfl) (fun _ _ _ h => h) (Or.inl ⟨by rfl, ?_⟩) (by assumption) ?_; rotate_left 1; focus (intro w hSw; (try dsimp only at hSw); go_simp; (try with_reducible rfl)))
              | fail
            try simp only [Act.put, List.getElem_toArray, List.getElem_cons_succ, List.getElem_cons_zero, List.setIfInBounds_toArray, List.set_cons_zero, List.set_cons_succ]
            refine wpAnyH_ready (rs := [3]) (by kernel_rfl) (by simp) ?_
            refine AllReadyH.cons rfl (fun K hK => ?_) AllReadyH.nil
            go_simp
            (go_at_call 16; with_reducible refine (cQ _ (by first | assumption | exact Below.drew (by assumption))).mono ?_; rintro e1 W1 ⟨rfl, g1⟩; replace g1 := Grew.trans' (a := wr) (by first | assumption | exact Below.drew (by assumption)) g1)
            go_wp2_with fail
            refine hK.out _ _ (by first | assumption | exact Below.drew (by assumption)) (fun hHeld => ?_)
            clear hK K
            try simp only [Act.put, List.getElem_toArray, List.getElem_cons_succ, List.getElem_cons_zero, List.setIfInBounds_toArray, List.set_cons_zero, List.set_cons_succ]
            first
              | (refine wpAnyH_take (i := 7) (v := ?_) rfl (by kernel_rfl) (by kernel_rfl) (by kernel_rfl) (fun _ _ _ h => h) (Or.inl ⟨by rfl, ?_⟩) (by assumption) ?_; rotate_left 1; focus (intro w hSw; (try dsimp only at hSw); go_simp; (try with_reducible rfl)))
              | fail
            try simp only [Act.put, List.getElem_toArray, List.getElem_cons_succ, List.getElem_cons_zero, List.setIfInBounds_toArray, List.set_cons_zero, List.set_cons_succ]
            refine wpAnyH_done (by kernel_rfl) ?_ _
            go_wp2
            go_ret3
            exact ⟨rfl, by assumption⟩
          · have fk : decide ((k : Int) < (s.size : Int)) = true := decide_eq_true (by omega)
            have ik := fun W => HIX.out k c hc W
            have e1 : ((c.toNat : Int) != 32) = false := by rw [bne_eq_false_iff_eq]; omega
            clear hc h32
            go_wp2
            refine wp_region_held_drew (S := fun w' => Grew wr w') (by kernel_rfl) (by first | assumption | exact Below.drew (by assumption)) (fun hHeld => ?_)
            first
              | (refine wpAnyH_take (i := 0) (v := ?_) rfl (by kernel_rfl) (by kernel_rfl) (by kernel_rfl) (fun _ _ _ h => h) (Or.inl ⟨by rfl, ?_⟩) (by assumption) ?_; rotate_left 1; focus (intro w hSw; (try dsimp only at hSw); go_simp; (try with_reducible rfl)))
              | fail
            try simp only [Act.put, List.getElem_toArray, List.getElem_cons_succ, List.getElem_cons_zero, List.setIfInBounds_toArray, List.set_cons_zero, List.set_cons_succ]
            first
              | (refine wpAnyH_take (i := 1) (v := ?_) rfl (by kernel_rfl) (by kernel_rfl) (by kernel_rfl) (fun _ _ _ h => h) (Or.inl ⟨by rfl, ?_⟩) (by assumption) ?_; rotate_left 1; focus (intro w hSw; (try dsimp only at hSw); go_simp; (try with_reducible rfl)))
              | fail
            try simp only [Act.put, List.getElem_toArray, List.getElem_cons_succ, List.getElem_cons_zero, List.setIfInBounds_toArray, List.set_cons_zero, List.set_cons_succ]
            first
              | (refine wpAnyH_take (i := 2) (v := ?_) rfl (by kernel_rfl) (by kernel_rfl) (by kernel_rfl) (fun _ _ _ h => h) (Or.inl ⟨by rfl, ?_⟩) (by assumption) ?_; rotate_left 1; focus (intro w hSw; (try dsimp only at hSw); go_simp; (try with_reducible rfl)))
              | fail
            try simp only [Act.put, List.getElem_toArray, List.getElem_cons_succ, List.getElem_cons_zero, List.setIfInBounds_toArray, List.set_cons_zero, List.set_cons_succ]
            first
              | (refine wpAnyH_take (i := 4) (v := ?_) rfl (by kernel_rfl) (by kernel_rfl) (by kernel_rfl) (fun _ _ _ h => h) (Or.inl ⟨by rfl, ?_⟩) (by assumption) ?_; rotate_left 1; focus (intro w hSw; (try dsimp only at hSw); go_simp; (try with_reducible rfl)))
              | fail
            try simp only [Act.put, List.getElem_toArray, List.getElem_cons_succ, List.getElem_cons_zero, List.setIfInBounds_toArray, List.set_cons_zero, List.set_cons_succ]
            first
              | (refine wpAnyH_take (i := 5) (v := ?_) rfl (by kernel_rfl) (by kernel_rfl) (by kernel_rfl) (fun _ _ _ h => h) (Or.inl ⟨by rfl, ?_⟩) (by assumption) ?_; rotate_left 1; focus (intro w hSw; (try dsimp only at hSw); go_simp; (try with_reducible rfl)))
              | fail
            try simp only [Act.put, List.getElem_toArray, List.getElem_cons_succ, List.getElem_cons_zero, List.setIfInBounds_toArray, List.set_cons_zero, List.set_cons_succ]
            first
              | (refine wpAnyH_take (i := 6) (v := ?_) rfl (by kernel_rfl) (by kernel_rfl) (by kernel_rfl) (fun _ _ _ h => h) (Or.inl ⟨by rfl, ?_⟩) (by assumption) ?_; rotate_left 1; focus (intro w hSw; (try dsimp only at hSw); go_simp; (try with_reducible rfl)))
              | fail
            try simp only [Act.put, List.getElem_toArray, List.getElem_cons_succ, List.getElem_cons_zero, List.setIfInBounds_toArray, List.set_cons_zero, List.set_cons_succ]
            refine wpAnyH_ready (rs := [3]) (by kernel_rfl) (by simp) ?_
            refine AllReadyH.cons rfl (fun K hK => ?_) AllReadyH.nil
            go_simp
            (go_at_call 16; with_reducible refine (cQ _ (by first | assumption | exact Below.drew (by assumption))).mono ?_; rintro e1 W1 ⟨rfl, g1⟩; replace g1 := Grew.trans' (a := wr) (by first | assumption | exact Below.drew (by assumption)) g1)
            go_wp2_with fail
            refine hK.out _ _ (by first | assumption | exact Below.drew (by assumption)) (fun hHeld => ?_)
            clear hK K
            try simp only [Act.put, List.getElem_toArray, List.getElem_cons_succ, List.getElem_cons_zero, List.setIfInBounds_toArray, List.set_cons_zero, List.set_cons_succ]
            first
              | (refine wpAnyH_take (i := 7) (v := ?_) rfl (by kernel_rfl) (by kernel_rfl) (by kernel_rfl) (fun _ _ _ h => h) (Or.inl ⟨by rfl, ?_⟩) (by assumption) ?_; rotate_left 1; focus (intro w hSw; (try dsimp only at hSw); go_simp; (try with_reducible rfl)))
              | fail
            try simp only [Act.put, List.getElem_toArray, List.getElem_cons_succ, List.getElem_cons_zero, List.setIfInBounds_toArray, List.set_cons_zero, List.set_cons_succ]
            refine wpAnyH_done (by kernel_rfl) ?_ _
            go_wp2
            go_ret3
            exact ⟨rfl, by assumption⟩
          · have fk : decide ((k : Int) < (s.size : Int)) = true := decide_eq_true (by omega)
            have ik := fun W => HIX.out k c hc W
            have e1 : ((c.toNat : Int) != 32) = true := by rw [bne_iff_ne]; omega
            have e2 : ((c.toNat : Int) != 10) = false := by rw [bne_eq_false_iff_eq]; omega
            clear hc h32 h10
            go_wp2
            refine wp_region_held_drew (S := fun w' => Grew wr w') (by kernel_rfl) (by first | assumption | exact Below.drew (by assumption)) (fun hHeld => ?_)
            first
              | (refine wpAnyH_take (i := 0) (v := ?_) rfl (by kernel_rfl) (by kernel_rfl) (by kernel_rfl) (fun _ _ _ h => h) (Or.inl ⟨by rfl, ?_⟩) (by assumption) ?_; rotate_left 1; focus (intro w hSw; (try dsimp only at hSw); go_simp; (try with_reducible rfl)))
              | fail
            try simp only [Act.put, List.getElem_toArray, List.getElem_cons_succ, List.getElem_cons_zero, List.setIfInBounds_toArray, List.set_cons_zero, List.set_cons_succ]
            first
              | (refine wpAnyH_take (i := 1) (v := ?_) rfl (by kernel_rfl) (by kernel_rfl) (by kernel_rfl) (fun _ _ _ h => h) (Or.inl ⟨by rfl, ?_⟩) (by assumption) ?_; rotate_left 1; focus (intro w hSw; (try dsimp only at hSw); go_simp; (try with_reducible rfl)))
              | fail
            try simp only [Act.put, List.getElem_toArray, List.getElem_cons_succ, List.getElem_cons_zero, List.setIfInBounds_toArray, List.set_cons_zero, List.set_cons_succ]
            first
              | (refine wpAnyH_take (i := 2) (v := ?_) rfl (by kernel_rfl) (by kernel_rfl) (by kernel_rfl) (fun _ _ _ h => h) (Or.inl ⟨by rfl, ?_⟩) (by assumption) ?_; rotate_left 1; focus (intro w hSw; (try dsimp only at hSw); go_simp; (try with_reducible rfl)))
              | fail
            try simp only [Act.put, List.getElem_toArray, List.getElem_cons_succ, List.getElem_cons_zero, List.setIfInBounds_toArray, List.set_cons_zero, List.set_cons_succ]
            first
              | (refine wpAnyH_take (i := 4) (v := ?_) rfl (by kernel_rfl) (by kernel_rfl) (by kernel_rfl) (fun _ _ _ h => h) (Or.inl ⟨by rfl, ?_⟩) (by assumption) ?_; rotate_left 1; focus (intro w hSw; (try dsimp only at hSw); go_simp; (try with_reducible rfl)))
              | fail
            try simp only [Act.put, List.getElem_toArray, List.getElem_cons_succ, List.getElem_cons_zero, List.setIfInBounds_toArray, List.set_cons_zero, List.set_cons_succ]
            first
              | (refine wpAnyH_take (i := 5) (v := ?_) rfl (by kernel_rfl) (by kernel_rfl) (by kernel_rfl) (fun _ _ _ h => h) (Or.inl ⟨by rfl, ?_⟩) (by assumption) ?_; rotate_left 1; focus (intro w hSw; (try dsimp only at hSw); go_simp; (try with_reducible rfl)))
              | fail
            try simp only [Act.put, List.getElem_toArray, List.getElem_cons_succ, List.getElem_cons_zero, List.setIfInBounds_toArray, List.set_cons_zero, List.set_cons_succ]
            first
              | (refine wpAnyH_take (i := 6) (v := ?_) rfl (by kernel_rfl) (by kernel_rfl) (by kernel_rfl) (fun _ _ _ h => h) (Or.inl ⟨by rfl, ?_⟩) (by assumption) ?_; rotate_left 1; focus (intro w hSw; (try dsimp only at hSw); go_simp; (try with_reducible rfl)))
              | fail
            try simp only [Act.put, List.getElem_toArray, List.getElem_cons_succ, List.getElem_cons_zero, List.setIfInBounds_toArray, List.set_cons_zero, List.set_cons_succ]
            refine wpAnyH_ready (rs := [3]) (by kernel_rfl) (by simp) ?_
            refine AllReadyH.cons rfl (fun K hK => ?_) AllReadyH.nil
            go_simp
            (go_at_call 16; with_reducible refine (cQ _ (by first | assumption | exact Below.drew (by assumption))).mono ?_; rintro e1 W1 ⟨rfl, g1⟩; replace g1 := Grew.trans' (a := wr) (by first | assumption | exact Below.drew (by assumption)) g1)
            go_wp2_with fail
            refine hK.out _ _ (by first | assumption | exact Below.drew (by assumption)) (fun hHeld => ?_)
            clear hK K
            try simp only [Act.put, List.getElem_toArray, List.getElem_cons_succ, List.getElem_cons_zero, List.setIfInBounds_toArray, List.set_cons_zero, List.set_cons_succ]
            first
              | (refine wpAnyH_take (i := 7) (v := ?_) rfl (by kernel_rfl) (by kernel_rfl) (by kernel_rfl) (fun _ _ _ h => h) (Or.inl ⟨by rfl, ?_⟩) (by assumption) ?_; rotate_left 1; focus (intro w hSw; (try dsimp only at hSw); go_simp; (try with_reducible rfl)))
              | fail
            try simp only [Act.put, List.getElem_toArray, List.getElem_cons_succ, List.getElem_cons_zero, List.setIfInBounds_toArray, List.set_cons_zero, List.set_cons_succ]
            refine wpAnyH_done (by kernel_rfl) ?_ _
            go_wp2
            go_ret3
            exact ⟨rfl, by assumption⟩

end Go.Proofs.YtbdcncojiejdoaaDoor

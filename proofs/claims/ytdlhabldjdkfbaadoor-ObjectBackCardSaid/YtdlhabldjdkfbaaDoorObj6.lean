/- The reference's Parse: which object bytes are. Conditions: at most 2^31 bytes. -/
import Derived.Test.YtdlhabldjdkfbaaDoorObj5
namespace Go.Proofs.YtdlhabldjdkfbaaDoor
set_option linter.unusedVariables false
set_option linter.unusedSimpArgs false
open Go.RowKit

theorem idx_behind (l : List UInt8) : (Lib.index l [0] = -1 ∧ Pure.behind0 l = none) ∨ ∃ e : Nat, Lib.index l [0] = (e : Int) ∧ e < l.length ∧ Pure.behind0 l = some (l.drop (e + 1)) := by
  rw [Lib.index_one]
  by_cases h : Lib.indexByte l 0 = -1
  · left
    refine ⟨h, (Pure.behind_none l).2 fun c hc => ?_⟩
    rintro rfl
    obtain ⟨i, hi⟩ := List.mem_iff_getElem?.1 hc
    exact Lib.indexByte_none h i hi
  · right
    have hge : -1 ≤ Lib.indexByte l 0 := by rw [← Lib.index_one]; exact Lib.index_ge _ _
    obtain ⟨e, he⟩ := Int.eq_ofNat_of_zero_le (by omega : 0 ≤ Lib.indexByte l 0)
    obtain ⟨h1, h2⟩ := Lib.indexByte_some he
    obtain ⟨hlt, h3⟩ := List.getElem?_eq_some_iff.1 h1
    have hl : l = l.take e ++ 0 :: l.drop (e + 1) := by
      conv => lhs; rw [← List.take_append_drop e l, List.drop_eq_getElem_cons hlt, h3]
    refine ⟨e, he, hlt, ?_⟩
    conv => lhs; rw [hl]
    refine Pure.behind_app _ _ fun c hc => ?_
    rintro rfl
    obtain ⟨i, hi⟩ := List.mem_iff_getElem?.1 hc
    rw [List.getElem?_take] at hi
    split at hi
    · exact h2 i (by assumption) hi
    · cases hi

/-- b[lo:] -/
theorem slice_from (p : Option Addr) (n c lo : Nat) (x : Int) (hx : x = (lo : Int)) (h1 : lo ≤ n) (h2 : n ≤ c) : ∃ q, (∀ W, (Instr.slice 22 (.slice p n c) (some (.int .i64 x)) none none).run Tryd.prog W = .ok (.slice q (n - lo) (c - lo)) W) ∧
    ∀ W l, l.length = n → Rd W p l → Rd W q (l.drop lo) := by
  subst hx
  refine ⟨if c = lo then p else p.map (·.add lo), fun W => ?_, fun W l hl hr => ?_⟩
  · rw [run_slice_l W 22 _ n c Tryd.underlying22 .i64 _ (by omega) (by omega)]
    simp [go_sem, sliced]
  · by_cases h0 : l.drop lo = []
    · exact .inl h0
    · have hlt : lo < l.length := by
        apply Classical.byContradiction
        intro h; exact h0 (List.drop_of_length_le (by omega))
      rw [if_neg (by omega)]
      rcases hr with rfl | ⟨b, o, rfl, hb, hc⟩
      · simp at hlt
      · refine .inr ⟨b, o + lo, by simp [Addr.add], hb, fun i hi => ?_⟩
        rw [List.length_drop] at hi
        rw [Nat.add_assoc, hc (lo + i) (by omega)]
        simp [List.getD_eq_getElem?_getD, List.getElem?_drop]

theorem bytesO_prefix (k : Int) (r : List UInt8) : Lib.hasPrefix (Pure.bytesO k r) (Pure.wordO k ++ [32]) = true := by
  have h : ∀ r p : List UInt8, Lib.hasPrefix r p = p.isPrefixOf r := fun r p => by first | rfl | (unfold Lib.hasPrefix; rfl)
  rw [h, List.isPrefixOf_iff_prefix]
  exact ⟨Lib.itoa (r.length : Int) ++ [0] ++ r, by simp [Pure.bytesO]⟩

set_option maxRecDepth 100000 in
set_option maxHeartbeats 2000000 in
theorem ref07_Parse (p : Option Addr) (l : List UInt8) (cap : Nat) (w : World) (hr : Rd w p l) (hcap : l.length ≤ cap) (hl : l.length ≤ 2147483648) :
    Calls Tryd.prog 15 #[.slice p l.length cap] w (ParsePost l w) := by
  obtain ⟨W0, hW0, gw0, g0, hq⟩ := boxed w #[.int .i64 0, .slice none 0 0] 27
  have q0 := fun W g => hq W g 0 _ rfl
  have q1 := fun W g => hq W g 1 _ rfl
  have f0 := boxed_free hW0
  have hsw : w.heap.size < W0.heap.size := by rw [← hW0]; simp
  clear hq
  have kconv : ∀ W, Grew w W → (convert 22 9 (.slice p l.length cap)).run Tryd.prog W = .ok (.string ⟨l.toArray⟩) W := fun W g => conv_string cap (hr.below g (Nat.le_refl _))
  go_enter Tryd.func15, Tryd.ntmps15
  go_wp2_with fail
  go_loopw [4] (fun i wr => ∃ k : Nat, i = .int .i64 (k : Int) ∧ 1 ≤ k ∧ k ≤ 4 ∧ Grew W0 wr ∧ Hid (∀ j : Nat, 1 ≤ j → j < k → ∀ r, Pure.behind0 l = some r → r.length ≤ 65536 → Pure.bytesO (j : Int) r ≠ l)) (fun i _ => 4 - (intOf i).toNat)
  case atStart => exact ⟨1, rfl, by omega, by omega, g0, fun j h1 h2 => by omega⟩
  case round =>
    obtain ⟨k, rfl, hk1, hk4, hb, hno⟩ := hrel
    have hbw := gw0.trans' hb
    by_cases hlt : k < 4
    · have hlt2 : (k : Int) ≤ 3 := by omega
      have hk3 : (k : Int) = 1 ∨ (k : Int) = 2 ∨ (k : Int) = 3 := by omega
      have hwne : Pure.wordO (k : Int) ≠ [] := by rcases hk3 with h | h | h <;> rw [h] <;> decide
      have cW := ref07_Word (k : Int) wr
      obtain ⟨S, hS⟩ : ∃ S : ByteArray, (⟨(Pure.wordO (k : Int)).toArray⟩ : ByteArray) = S := ⟨_, rfl⟩
      have hsz : S.size ≤ 6 := by rw [← hS]; show (Pure.wordO (k : Int)).toArray.size ≤ 6; unfold Pure.wordO; split; decide; split; decide; split <;> decide
      rw [hS] at cW
      obtain ⟨T1, h1⟩ : ∃ T : ByteArray, S ++ ⟨#[32]⟩ = T := ⟨_, rfl⟩
      have n1 : ¬ 9223372036854775807 < S.size + 1 := by omega
      have hTl : T1.data.toList = Pure.wordO (k : Int) ++ [32] := by rw [← h1, append_list, ← hS]
      obtain ⟨B, hB⟩ : ∃ B, Lib.hasPrefix l (Pure.wordO (k : Int) ++ [32]) = B := ⟨_, rfl⟩
      have HB := Lib.hid hB
      have HTL := Lib.hid hTl
      clear hB hTl hS
      go_wp2_with fail
      go_fit cW
      rintro e1 W1 ⟨rfl, g1⟩
      have hb1 := hb.trans' g1
      have gw1 := hbw.trans' g1
      have cB := help_Begins ⟨l.toArray⟩ T1 W1
      simp only [List.toList_toArray, HTL.out, HB.out] at cB
      have cF := help_Find ⟨l.toArray⟩ ⟨#[0]⟩ W1 (by show l.toArray.size ≤ _; simp; omega) (by decide) (by decide)
      simp only [List.toList_toArray] at cF
      have hnx : (∀ r, Pure.behind0 l = some r → r.length ≤ 65536 → Pure.bytesO (k : Int) r ≠ l) → Hid (∀ j : Nat, 1 ≤ j → j < k + 1 → ∀ r, Pure.behind0 l = some r → r.length ≤ 65536 → Pure.bytesO (j : Int) r ≠ l) := fun h j h1 h2 => by
        by_cases e : j = k
        · subst e; exact h
        · exact hno j h1 (by omega)
      have HNX := Lib.hid hnx
      clear hnx cW
      cases B with
      | false =>
        clear cF
        go_wp2_with fail
        go_fit cB
        rintro e2 W2 ⟨rfl, h2⟩
        subst W2
        go_wp2
        go_roundw
        case rel =>
          refine ⟨k + 1, by go_num, by omega, by omega, hb1, HNX.out fun r hr hs he => ?_⟩
          have := bytesO_prefix (k : Int) r
          rw [he, HB.out] at this
          cases this
        case measure => simp [intOf]; omega
      | true =>
        go_wp2_with fail
        go_fit cB
        rintro e2 W2 ⟨rfl, h2⟩
        subst W2
        go_wp2_with fail
        go_fit cF
        rintro e3 W3 ⟨rfl, h3⟩
        subst W3
        clear cB cF
        rcases idx_behind l with ⟨hi, hbn⟩ | ⟨e, hi, helt, hbs⟩
        · have hn : Pure.parseO l = none := by unfold Pure.parseO; rw [hbn]
          have e0 := q0 W1 hb1
          have e1 := q1 W1 hb1
          rw [hi]
          have HN := Lib.hid hn
          clear hn hbn hi HNX
          go_wp2
          refine bodyPost_ret (v := .tuple #[.agg #[.int .i64 0, .slice none 0 0], .int .i64 4]) (by simp [results, Tryd.results15, go_sem, e0, e1]) rfl ⟨?_, .inl ⟨HN.out, rfl⟩⟩
          exact (gw1.setCell (p := ⟨_, _, none⟩) (Nat.le_refl _) _).setCell (p := ⟨_, _, none⟩) (Nat.le_refl _) _
        · rw [hi]
          obtain ⟨q, hq, hqr⟩ := slice_from p l.length cap (e + 1) ((e : Int) + 1) (by omega) (by omega) hcap
          have hrq := hqr W1 l rfl (hr.below gw1 (Nat.le_refl _))
          obtain ⟨r, hr'⟩ : ∃ r, l.drop (e + 1) = r := ⟨_, rfl⟩
          have hrl : l.length - (e + 1) = r.length := by rw [← hr', List.length_drop]
          rw [hr'] at hrq hbs
          rw [hrl] at hq
          have hrle : r.length ≤ 2147483648 := by omega
          have cC := help_Copy q r (cap - (e + 1)) W1 (by omega) hrq
          have HBS := Lib.hid hbs
          clear hbs hi hqr hrq hrl hr'
          go_wp2_with fail
          go_fit cC
          rintro e4 W4 ⟨v4, rfl, hown4, g4⟩
          obtain ⟨q4, d4, rfl, hr4, hd4, hat4⟩ := hown4.val
          have hb4 := hb1.trans' g4
          have gw4 := gw1.trans' g4
          obtain ⟨V0, hV0, gv0, gvv, hqv⟩ := boxed W4 #[.int .i64 (k : Int), .slice q4 r.length d4] 27
          have v0 := fun W g => hqv W g 0 _ rfl
          have v1 := fun W g => hqv W g 1 _ rfl
          have gV : Grew W0 V0 := hb4.trans' gv0
          have cP := ref07_Print (k : Int) q4 r d4 V0 (by omega) (hr4.below gv0 (Nat.le_refl _))
          have hs4 := gw4.size
          have hs41 := g4.size
          have hs1 := gw1.size
          have hs2 := hb1.size
          clear hqv cC hq hown4
          go_wp2_with fail
          go_fit cP
          rintro e5 W5 ⟨g5, ⟨hw, _⟩ | ⟨_, hbig, rfl⟩ | ⟨_, hsm, v5, rfl, hown⟩⟩
          · exact absurd hw hwne
          · clear cP
            go_wp2
            go_roundw
            case rel =>
              refine ⟨k + 1, by go_num, by omega, by omega, gV.trans' g5, HNX.out fun r2 h2 hs he => ?_⟩
              have h3 := HBS.out
              rw [h2, Option.some.injEq] at h3
              subst h3
              omega
            case measure => simp [intOf]; omega
          · clear cP
            obtain ⟨q5, d5, rfl, hr5, -, -⟩ := hown.val
            have gW5 := gV.trans' g5
            have cE := help_Bytes q5 p (Pure.bytesO (k : Int) r) l d5 cap W5 hr5 (hr.below (gw0.trans' gW5) (Nat.le_refl _))
            obtain ⟨E, hE⟩ : ∃ B, (Pure.bytesO (k : Int) r == l) = B := ⟨_, rfl⟩
            rw [hE] at cE
            have HE := Lib.hid hE
            have gv5 := g5
            clear hE hown
            cases E with
            | false =>
              go_wp2_with fail
              go_fit cE
              rintro e6 W6 ⟨rfl, h6⟩
              subst W6
              go_wp2
              go_roundw
              case rel =>
                refine ⟨k + 1, by go_num, by omega, by omega, gW5, HNX.out fun r2 h2 hs he => ?_⟩
                have h3 := HBS.out
                rw [h2, Option.some.injEq] at h3
                subst h3
                exact beq_eq_false_iff_ne.1 HE.out he
              case measure => simp [intOf]; omega
            | true =>
              go_wp2_with fail
              go_fit cE
              rintro e6 W6 ⟨rfl, h6⟩
              subst W6
              have e0 := q0 W5 gW5
              have e1 := q1 W5 gW5
              have z0 := v0 W5 g5
              have z1 := v1 W5 g5
              have hne : w.heap.size ≠ W4.heap.size := by omega
              have hne2 : W4.heap.size ≠ w.heap.size := by omega
              have hpar : Pure.parseO l = some ((k : Int), r) := by
                rw [← beq_iff_eq.1 HE.out]
                exact Pure.parse_bytes hk3 hsm
              have HPAR := Lib.hid hpar
              have hr45 := hr4.below (gv0.trans' g5) (Nat.le_refl _)
              clear cE hpar
              go_wp2_with fail
              refine bodyPost_ret (v := .tuple #[.agg #[.int .i64 (k : Int), .slice q4 r.length d4], .int .i64 0]) (by simp [results, Tryd.results15, go_sem, e0, e1, hne, hne2]) rfl ⟨?_, .inr ⟨k, r, q4, d4, HPAR.out, rfl, ?_⟩⟩
              · exact ((gw0.trans' gW5).setCell (p := ⟨_, _, none⟩) (Nat.le_refl _) _).setCell (p := ⟨_, _, none⟩) (Nat.le_refl _) _
              · refine (hr45.set _ _ fun a h => ?_).set _ _ fun a h => ?_
                all_goals
                  have := hat4 a h
                  show a.block ≠ _
                  simp only
                  omega
    · obtain rfl : k = 4 := by omega
      have hn : Pure.parseO l = none := by
        unfold Pure.parseO
        cases hbh : Pure.behind0 l with
        | none => rfl
        | some r =>
          show (if 65536 < r.length then none else _) = none
          split
          · rfl
          · have h := fun j h1 h2 => hno j h1 h2 r hbh (by omega)
            have h1 : Pure.bytesO 1 r ≠ l := h 1 (by omega) (by omega)
            have h2 : Pure.bytesO 2 r ≠ l := h 2 (by omega) (by omega)
            have h3 : Pure.bytesO 3 r ≠ l := h 3 (by omega) (by omega)
            rw [if_neg h1, if_neg h2, if_neg h3]
      have HN := Lib.hid hn
      have e0 := q0 wr hb
      have e1 := q1 wr hb
      clear hn
      go_wp2
      refine bodyPost_ret (v := .tuple #[.agg #[.int .i64 0, .slice none 0 0], .int .i64 4]) (by simp [results, Tryd.results15, go_sem, e0, e1]) rfl ⟨?_, .inl ⟨HN.out, rfl⟩⟩
      exact (hbw.setCell (p := ⟨_, _, none⟩) (Nat.le_refl _) _).setCell (p := ⟨_, _, none⟩) (Nat.le_refl _) _

end Go.Proofs.YtdlhabldjdkfbaaDoor

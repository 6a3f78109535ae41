/- object.Parse and the reference's Parse: which object bytes are. Conditions: the library's tables are laid, at most 2^31 bytes. -/
import Derived.Test.YtdlhabldjdkfbaaDoorObj3
import Derived.Test.YtdlhabldjdkfbaaDoorHelpBytes
import Derived.Test.YtdlhabldjdkfbaaDoorHelpText
import Derived.Test.YtdlhabldjdkfbaaDoorBytes
namespace Go.Proofs.YtdlhabldjdkfbaaDoor
set_option linter.unusedVariables false
set_option linter.unusedSimpArgs false
open Go.RowKit

set_option maxRecDepth 100000 in
set_option maxHeartbeats 1000000 in
theorem help_Copy (p : Option Addr) (l : List UInt8) (cap : Nat) (w : World) (hl : l.length ≤ 1099511627776) (hr : Rd w p l) :
    Calls Tryd.prog 30 #[.slice p l.length cap] w fun e w' => ∃ v, e = .returned v ∧ OwnB w' w.heap.size v l ∧ Grew w w' := by
  go_enter Tryd.func30, Tryd.ntmps30
  go_wp2_with (at_builtin; refine wpList_append_B rfl _ _ rfl w.heap.size _ [] l p cap rfl rfl (OwnB.nil _ _) hr (Nat.le_refl _) (by simp; omega) ?_)
  intro v3 W3 hown3 hb3 hg3
  go_wp2
  go_ret
  exact ⟨_, rfl, hown3, hb3⟩

/-- What Parse leaves: the object and OK, or none and ErrForm. -/
def ParsePost (l : List UInt8) (w : World) (e : Ending) (w' : World) : Prop := Grew w w' ∧
  ((Pure.parseO l = none ∧ e = .returned (.tuple #[.agg #[.int .i64 0, .slice none 0 0], .int .i64 4])) ∨
   ∃ k r q d, Pure.parseO l = some (k, r) ∧ e = .returned (.tuple #[.agg #[.int .i64 k, .slice q r.length d], .int .i64 0]) ∧ Rd w' q r)

theorem cut0_behind : ∀ l : List UInt8, Pure.behind0 l = (cut0 l).map (·.2)
  | [] => rfl
  | c :: r => by
    unfold Pure.behind0 cut0
    by_cases h : c = 0
    · rw [if_pos h, if_pos h]; rfl
    · rw [if_neg h, if_neg h, cut0_behind r, Option.map_map]; rfl

set_option maxRecDepth 100000 in
set_option maxHeartbeats 1000000 in
theorem object_Parse (p : Option Addr) (l : List UInt8) (cap : Nat) (w : World) (hr : Rd w p l) (hp : p = none → cap = 0) (hcap : l.length ≤ cap) (hl : l.length ≤ 2147483648) (hm : MaxOk w) (hT : TabOk w) :
    Calls Tryd.prog 11 #[.slice p l.length cap] w (ParsePost l w) := by
  obtain ⟨W0, hW0, gw0, g0, hq⟩ := boxed w #[.int .i64 0, .slice none 0 0] 27
  obtain ⟨W1, hW1, g01, g11, hq1⟩ := boxed W0 #[.int .u8 0] 5
  have q0 := fun W g => hq W g 0 _ rfl
  have q1 := fun W g => hq W g 1 _ rfl
  have f0 := boxed_free hW0
  have gw1 := gw0.trans' g01
  have hz : W0.heap.size = w.heap.size + 1 := by rw [← hW0]; simp
  have hrz : Rd W1 (some ⟨W0.heap.size, 0, none⟩) [0] := .inr ⟨_, 0, rfl, by rw [← hW1]; simp, fun i hi => by
    have : i = 0 := by simp at hi; omega
    subst this
    exact hq1 W1 g11 0 _ rfl⟩
  have cc := bytes_Cut0 p (some ⟨W0.heap.size, 0, none⟩) l cap W1 (hr.below gw1 (Nat.le_refl _)) hrz hp hcap hl (hm.grew gw1)
  clear hq hq1 hrz
  have HZ := Lib.hid hz
  clear hz
  go_enter Tryd.func11, Tryd.ntmps11
  go_wp2_with fail
  go_fit cc
  rintro e2 W2 ⟨g2, ⟨hc, rfl⟩ | ⟨a, r, p2, c2, hc, rfl, -, hr2, hrc, hp2⟩⟩
  all_goals
    have g02 := g01.trans' g2
    have gw2 := gw0.trans' g02
    clear cc
  · have hn : Pure.parseO l = none := by unfold Pure.parseO; rw [cut0_behind, hc]; rfl
    have HN := Lib.hid hn
    clear hn hc
    go_wp2
    have e0 := q0 W2 g02
    have e1 := q1 W2 g02
    refine bodyPost_ret (v := .tuple #[.agg #[.int .i64 0, .slice none 0 0], .int .i64 4]) (by simp [results, Tryd.results11, go_sem, e0, e1]) rfl ⟨?_, .inl ⟨HN.out, rfl⟩⟩
    exact (gw2.setCell (p := ⟨_, _, none⟩) (Nat.le_refl _) _).setCell (p := ⟨_, _, none⟩) (Nat.le_refl _) _
  · have hk3 : ∀ k : Nat, 1 ≤ k → k ≤ 3 → Pure.wordO (k : Int) ≠ [] := by
      intro k h1 h2
      have : k = 1 ∨ k = 2 ∨ k = 3 := by omega
      rcases this with rfl | rfl | rfl <;> decide
    have hlen : r.length ≤ l.length := by
      have h1 := (cut0_some _ _ _).1 hc
      rw [h1.1]; simp; omega
    have hP : Pure.parseO l = if 65536 < r.length then none else if Pure.bytesO 1 r = l then some (1, r) else if Pure.bytesO 2 r = l then some (2, r) else if Pure.bytesO 3 r = l then some (3, r) else none := by unfold Pure.parseO; rw [cut0_behind, hc]; rfl
    have HK := Lib.hid hk3
    have HP := Lib.hid hP
    clear hk3 hP hc
    go_wp2_with fail
    go_loopw [7] (fun i wr => ∃ k : Nat, i = .int .i64 (k : Int) ∧ 1 ≤ k ∧ k ≤ 4 ∧ Grew W0 wr ∧ Grew W2 wr ∧ Hid (65536 < r.length ∨ ∀ j : Nat, 1 ≤ j → j < k → Pure.bytesO (j : Int) r ≠ l)) (fun i _ => 4 - (intOf i).toNat)
    case atStart => exact ⟨1, rfl, by omega, by omega, g02, Below.refl _ _, .inr (fun j h1 h2 => by omega)⟩
    case round =>
      obtain ⟨k, rfl, hk1, hk4, hb, hb2, hno⟩ := hrel
      have hbw := gw0.trans' hb
      by_cases hlt : k < 4
      · have hlt2 : (k : Int) ≤ 3 := by omega
        obtain ⟨V0, hV0, gv0, gvv, hqv⟩ := boxed wr #[.int .i64 (k : Int), .slice p2 r.length c2] 27
        have v0 := fun W g => hqv W g 0 _ rfl
        have v1 := fun W g => hqv W g 1 _ rfl
        have fv := boxed_free hV0
        have gV : Grew W0 V0 := hb.trans' gv0
        have gV2 : Grew W2 V0 := hb2.trans' gv0
        have gVw := gw0.trans' gV
        have cP := object_Print (k : Int) p2 r c2 V0 (by omega) (hr2.below gV2 (Nat.le_refl _)) (hT.grew gVw)
        have hs1 := gw0.size
        have hs2 := hb.size
        have hs3 : w.heap.size < W0.heap.size := by rw [← hW0]; simp
        clear hqv
        go_wp2_with fail
        go_fit cP
        rintro e3 W3 ⟨g3, ⟨hw, _⟩ | ⟨_, hbig, rfl⟩ | ⟨_, hsm, v3, rfl, hown⟩⟩
        · exact absurd hw (HK.out k hk1 (by omega))
        · clear cP
          go_wp2_with fail
          go_roundw
          case rel => exact ⟨k + 1, by go_num, by omega, by omega, gV.trans' g3, gV2.trans' g3, .inl hbig⟩
          case measure => simp [intOf]; omega
        · clear cP
          obtain ⟨q3, d3, rfl, hr3, -, -⟩ := hown.val
          have gW3 := gV.trans' g3
          have cE := bytes_Equal' q3 p (Pure.bytesO (k : Int) r) l d3 cap W3 hr3 (hr.below (gw0.trans' gW3) (Nat.le_refl _))
          obtain ⟨B, hB⟩ : ∃ B, (Pure.bytesO (k : Int) r == l) = B := ⟨_, rfl⟩
          rw [hB] at cE
          have HB := Lib.hid hB
          clear hB hown
          cases B with
          | false =>
            go_wp2_with fail
            go_fit cE
            rintro e4 W4 ⟨rfl, h4⟩
            subst W4
            go_wp2
            go_roundw
            case rel =>
              refine ⟨k + 1, by go_num, by omega, by omega, gW3, gV2.trans' g3, ?_⟩
              rcases hno with h | h
              · exact .inl h
              · refine .inr (fun j h1 h2 => ?_)
                by_cases e : j = k
                · subst e; exact beq_eq_false_iff_ne.1 HB.out
                · exact h j h1 (by omega)
            case measure => simp [intOf]; omega
          | true =>
            have cC := bytes_Clone' p2 r c2 W3 (hr2.below (gV2.trans' g3) (Nat.le_refl _)) (by omega)
            go_wp2_with fail
            go_fit cE
            rintro e4 W4 ⟨rfl, h4⟩
            subst W4
            go_wp2_with fail
            go_fit cC
            rintro e5 W5 ⟨⟨q5, d5, rfl, hr5, hat5⟩, g5⟩
            have gv5 := g3.trans' g5
            have gW5 := gW3.trans' g5
            have e0 := q0 W5 gW5
            have e1 := q1 W5 gW5
            have hne : w.heap.size ≠ wr.heap.size := by omega
            have hne2 : wr.heap.size ≠ w.heap.size := by omega
            clear cE cC
            have hs4 := g3.size
            have hs5 : wr.heap.size < V0.heap.size := by rw [← hV0]; simp
            have hpar : Pure.parseO l = some ((k : Int), r) := by
              rw [← beq_iff_eq.1 HB.out]
              exact Pure.parse_bytes (by omega) hsm
            have HPAR := Lib.hid hpar
            clear hpar
            go_wp2_with fail
            refine bodyPost_ret (v := .tuple #[.agg #[.int .i64 (k : Int), .slice q5 r.length d5], .int .i64 0]) (by simp [results, Tryd.results11, go_sem, e0, e1, hne, hne2]) rfl ⟨?_, .inr ⟨k, r, q5, d5, HPAR.out, rfl, ?_⟩⟩
            · exact (((gw0.trans' gW5).setCell (p := ⟨_, _, none⟩) (by show w.heap.size ≤ wr.heap.size; omega) _).setCell (p := ⟨_, _, none⟩) (Nat.le_refl _) _).setCell (p := ⟨_, _, none⟩) (Nat.le_refl _) _
            · refine ((hr5.set _ _ fun a h => ?_).set _ _ fun a h => ?_).set _ _ fun a h => ?_
              all_goals
                have := hat5 a h
                show a.block ≠ _
                simp only
                omega
      · obtain rfl : k = 4 := by omega
        have hn : Pure.parseO l = none := by
          rw [HP.out]
          rcases hno with h | h
          · rw [if_pos h]
          · split
            · rfl
            · have h1 : Pure.bytesO 1 r ≠ l := h 1 (by omega) (by omega)
              have h2 : Pure.bytesO 2 r ≠ l := h 2 (by omega) (by omega)
              have h3 : Pure.bytesO 3 r ≠ l := h 3 (by omega) (by omega)
              rw [if_neg h1, if_neg h2, if_neg h3]
        have HN := Lib.hid hn
        have e0 := q0 wr hb
        have e1 := q1 wr hb
        clear hn
        go_wp2
        refine bodyPost_ret (v := .tuple #[.agg #[.int .i64 0, .slice none 0 0], .int .i64 4]) (by simp [results, Tryd.results11, go_sem, e0, e1]) rfl ⟨?_, .inl ⟨HN.out, rfl⟩⟩
        exact (hbw.setCell (p := ⟨_, _, none⟩) (Nat.le_refl _) _).setCell (p := ⟨_, _, none⟩) (Nat.le_refl _) _

end Go.Proofs.YtdlhabldjdkfbaaDoor

/- meta.Reserved, Bears, Pack and Take. Conditions: the library's tables are laid; texts within bounds. -/
import Derived.Test.YtkdmhflcpfekfaaDoorPure21
import Derived.Test.YtkdmhflcpfekfaaDoorChg2
import Derived.Test.YtkdmhflcpfekfaaDoorChg3
import Derived.Test.YtkdmhflcpfekfaaDoorChg4
namespace Go.Proofs.YtkdmhflcpfekfaaDoor
set_option linter.unusedVariables false
set_option linter.unusedSimpArgs false
open Go.RowKit

abbrev markT : ByteArray := ⟨#[10, 45, 45, 99, 115, 45, 98, 114, 105, 100, 103, 101, 45, 45, 10]⟩
def gitM : List UInt8 := [103, 105, 116, 46]

set_option maxRecDepth 100000 in
theorem meta_Reserved (s : ByteArray) (w : World) :
    Calls Tryd.prog 17 #[.string s] w fun e w' => e = .returned (.bool (Lib.hasPrefix s.data.toList gitM)) ∧ w' = w := by
  have cP := Tryd.strings_HasPrefix s ⟨#[103, 105, 116, 46]⟩ w
  have hd : (⟨#[103, 105, 116, 46]⟩ : ByteArray).data.toList = gitM := rfl
  rw [hd] at cP
  clear hd
  go_enter Tryd.func17, Tryd.ntmps17
  go_wp2_with (go_at_call 36; with_reducible refine cP.mono ?_; rintro e1 W1 ⟨rfl, h1⟩; subst W1)
  go_ret
  exact ⟨rfl, rfl⟩
set_option maxRecDepth 100000 in
theorem meta_Bears (s : ByteArray) (w : World) (hs : s.size ≤ 4000000000) (hm : MaxOk w) :
    Calls Tryd.prog 19 #[.string s] w fun e w' => e = .returned (.bool (bearsP s.data.toList)) ∧ w' = w := by
  obtain ⟨m, hm⟩ := hm
  have cP := Tryd.strings_Contains s markT m w (by omega) hm
  have hd : markT.data.toList = markM := rfl
  rw [hd] at cP
  clear hd
  unfold bearsP
  go_enter Tryd.func19, Tryd.ntmps19
  go_wp2_with (go_at_call 37; with_reducible refine cP.mono ?_; rintro e1 W1 ⟨rfl, h1⟩; subst W1)
  go_ret
  exact ⟨rfl, rfl⟩

theorem pack_bad {t : List UInt8} {l c : List Two} (h : bearsP t = true ∨ besideP l c = false) : packP t l c = ([], 4) := by
  unfold packP
  rw [if_pos]
  rcases h with h | h <;> rw [h] <;> simp
theorem pack_good {t : List UInt8} {l c : List Two} (h1 : bearsP t = false) (h2 : besideP l c = true) : packP t l c = if 0 < l.length + c.length then (if 32768 < (t ++ markM ++ trailerP l c).length then ([], 5) else (t ++ markM ++ trailerP l c, 0)) else (t, 0) := by
  unfold packP
  rw [if_neg]
  rw [h1, h2]
  simp

set_option maxRecDepth 100000 in
set_option maxHeartbeats 2000000 in
theorem meta_Pack (t : ByteArray) (p q : Option Addr) (l m : List Two) (c d : Nat) (w : World) (ht : t.size ≤ 1073741824) (hl : l.length ≤ 1073741824) (hml : m.length ≤ 1073741824) (hr : RdG kExtra w p l) (hq : RdG kCopy w q m) (hf : ∀ x ∈ l, FineW x) (hg : ∀ x ∈ m, FineW x) (hsz : (trailerP l m).length ≤ 1099511627776) (hm : MaxOk w) (hu : U8Ok w) (hF : FoldOk w) :
    Calls Tryd.prog 11 #[.string t, .slice p l.length c, .slice q m.length d] w fun e w' => e = .returned (.tuple #[.string ⟨(packP t.data.toList l m).1.toArray⟩, .int .i64 (packP t.data.toList l m).2]) ∧ Grew w w' := by
  have g0 : Grew w w := Below.refl _ _
  have cB := fun W (g : Grew w W) => meta_Bears t W (by omega) (hm.grew g)
  have cS := fun W (g : Grew w W) => change_Beside p q l m c d W hl hml (hr.grew g) (hq.grew g) hf hg (hm.grew g) (u8_grew hu g) (hF.grew g)
  have cT := fun W (g : Grew w W) => change_Trailer p q l m c d W hl hml (hr.grew g) (hq.grew g) hsz
  have htl : t.data.toList.length = t.size := Array.length_toList
  by_cases hbad : bearsP t.data.toList = true ∨ besideP l m = false
  · rw [pack_bad hbad]
    obtain ⟨B, hB⟩ : ∃ B, bearsP t.data.toList = B := ⟨_, rfl⟩
    obtain ⟨S, hS⟩ : ∃ B, besideP l m = B := ⟨_, rfl⟩
    simp only [hB] at cB
    simp only [hS] at cS
    rw [hB, hS] at hbad
    clear hm hu hF hr hq hf hg hB hS cT htl
    have ways : B = true ∨ (B = false ∧ S = false) := by cases B <;> cases S <;> simp_all
    clear hbad
    rcases ways with rfl | ⟨rfl, rfl⟩
    all_goals
      go_enter Tryd.func11, Tryd.ntmps11
      go_wp2_with (first | (go_at_call 19; with_reducible refine (cB _ (by assumption)).mono ?_; rintro e1 W1 ⟨rfl, h1⟩; subst W1) | (go_at_call 24; with_reducible refine (cS _ (by assumption)).mono ?_; rintro e1 W1 ⟨rfl, g1⟩; replace g1 := Grew.trans' (a := w) (by assumption) g1))
      go_ret2
      exact ⟨rfl, by assumption⟩
  · obtain ⟨hB, hS⟩ : bearsP t.data.toList = false ∧ besideP l m = true := by
      cases h1 : bearsP t.data.toList <;> cases h2 : besideP l m <;> simp_all
    rw [pack_good hB hS]
    simp only [hB] at cB
    simp only [hS] at cS
    clear hm hu hF hr hq hf hg hbad hB hS
    by_cases h0 : 0 < l.length + m.length
    · rw [if_pos h0]
      have f0 : decide ((0 : Int) < (l.length : Int) + (m.length : Int)) = true := decide_eq_true (by omega)
      have f0' : decide (0 < l.length + m.length) = true := decide_eq_true h0
      obtain ⟨R, hR⟩ : ∃ R : ByteArray, (⟨(trailerP l m).toArray⟩ : ByteArray) = R := ⟨_, rfl⟩
      have hRl : R.data.toList = trailerP l m := by rw [← hR]
      have hRs : R.size = (trailerP l m).length := by rw [Lib.size_eq, hRl]
      simp only [hR] at cT
      obtain ⟨T1, h1⟩ : ∃ T : ByteArray, markT ++ R = T := ⟨_, rfl⟩
      obtain ⟨T2, h2⟩ : ∃ T : ByteArray, t ++ T1 = T := ⟨_, rfl⟩
      have s1 : T1.size = 15 + R.size := by rw [← h1, ByteArray.size_append]; rfl
      have s2 : T2.size = t.size + T1.size := by rw [← h2, ByteArray.size_append]
      have n1 : ¬ 9223372036854775807 < 15 + R.size := by omega
      have n2 : ¬ 9223372036854775807 < t.size + T1.size := by omega
      have hT2 : T2.data.toList = t.data.toList ++ markM ++ trailerP l m := by
        rw [← h2, ← h1, append_list, append_list, hRl, List.append_assoc]
        rfl
      have hT2s : (t.data.toList ++ markM ++ trailerP l m).length = T2.size := by
        rw [← hT2]
        first | done | exact Array.length_toList
      have hT2a : (⟨(t.data.toList ++ markM ++ trailerP l m).toArray⟩ : ByteArray) = T2 := by
        rw [← hT2]
        first | done | exact mk_list T2
      rw [hT2s]
      by_cases hbig : 32768 < T2.size
      · have f2 : decide (32768 < (T2.size : Int)) = true := decide_eq_true (by omega)
        rw [if_pos hbig]
        clear hR hRl hRs s1 s2 hT2 hT2s hT2a htl hsz
        go_enter Tryd.func11, Tryd.ntmps11
        go_wp2_with (first | (go_at_call 19; with_reducible refine (cB _ (by assumption)).mono ?_; rintro e1 W1 ⟨rfl, h1⟩; subst W1) | (go_at_call 24; with_reducible refine (cS _ (by assumption)).mono ?_; rintro e1 W1 ⟨rfl, g1⟩; replace g1 := Grew.trans' (a := w) (by assumption) g1) | (go_at_call 25; with_reducible refine (cT _ (by assumption)).mono ?_; rintro e1 W1 ⟨rfl, g1⟩; replace g1 := Grew.trans' (a := w) (by assumption) g1))
        go_ret2
        exact ⟨rfl, by assumption⟩
      · have f2 : decide (32768 < (T2.size : Int)) = false := decide_eq_false (by omega)
        rw [if_neg hbig]
        simp only [hT2a]
        clear hR hRl hRs s1 s2 hT2 hT2s hT2a htl hsz
        go_enter Tryd.func11, Tryd.ntmps11
        go_wp2_with (first | (go_at_call 19; with_reducible refine (cB _ (by assumption)).mono ?_; rintro e1 W1 ⟨rfl, h1⟩; subst W1) | (go_at_call 24; with_reducible refine (cS _ (by assumption)).mono ?_; rintro e1 W1 ⟨rfl, g1⟩; replace g1 := Grew.trans' (a := w) (by assumption) g1) | (go_at_call 25; with_reducible refine (cT _ (by assumption)).mono ?_; rintro e1 W1 ⟨rfl, g1⟩; replace g1 := Grew.trans' (a := w) (by assumption) g1))
        go_ret2
        exact ⟨rfl, by assumption⟩
    · rw [if_neg h0]
      have f0 : decide ((0 : Int) < (l.length : Int) + (m.length : Int)) = false := decide_eq_false (by omega)
      have f0' : decide (0 < l.length + m.length) = false := decide_eq_false h0
      have hte : (⟨t.data.toList.toArray⟩ : ByteArray) = t := mk_list t
      simp only [hte]
      clear htl hsz cT hte
      go_enter Tryd.func11, Tryd.ntmps11
      go_wp2_with (first | (go_at_call 19; with_reducible refine (cB _ (by assumption)).mono ?_; rintro e1 W1 ⟨rfl, h1⟩; subst W1) | (go_at_call 24; with_reducible refine (cS _ (by assumption)).mono ?_; rintro e1 W1 ⟨rfl, g1⟩; replace g1 := Grew.trans' (a := w) (by assumption) g1))
      go_ret2
      exact ⟨rfl, by assumption⟩

/-- What Take leaves. -/
def TakenPost (t : List UInt8) (w : World) (e : Ending) (w' : World) : Prop := Grew w w' ∧
  ∃ x l c b v u, takeP t = (x, l, c, b) ∧ e = .returned (.tuple #[.string ⟨x.toArray⟩, v, u, .bool b]) ∧ OwnG kExtra w' w.heap.size v l ∧ OwnG kCopy w' w.heap.size u c ∧ (∀ y ∈ l, SizesLe t.length y) ∧ (∀ y ∈ c, SizesLe t.length y) ∧ x.length ≤ t.length ∧ l.length + c.length ≤ t.length

end Go.Proofs.YtkdmhflcpfekfaaDoor

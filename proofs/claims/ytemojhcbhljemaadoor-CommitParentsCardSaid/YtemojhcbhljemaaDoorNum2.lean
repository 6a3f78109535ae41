/- hexa.TakeNumber: the number that digits of 10 say. Conditions: the library's variables are laid, the text is at most 2^40 bytes long. -/
import Derived.Test.YtemojhcbhljemaaDoorNum1
import Derived.Test.YtemojhcbhljemaaDoorPure01c
import Derived.Shelf.Strconv.ParseIntPublic10
import Derived.Lib.AtoiErrMem
namespace Go.Proofs.YtemojhcbhljemaaDoor
set_option linter.unusedVariables false
set_option linter.unusedSimpArgs false
open Go.RowKit

/-- A cell of an interface, whatever it holds. -/
def IfaceAt (g : Nat) (w : World) : Prop := ∃ ev, w.cell? ⟨g, 0, none⟩ = some ev ∧ (ev = .nilIface ∨ ∃ te pe, ev = .iface te pe)
theorem IfaceAt.grew {g : Nat} {w w' : World} (h : IfaceAt g w) (hb : Grew w w') : IfaceAt g w' := by
  obtain ⟨ev, h1, h2⟩ := h
  exact ⟨ev, (hb.cell (World.block_lt_of_cell? _ _ h1)).trans h1, h2⟩
/-- The library's two errors of a parse: some values. -/
def ErrOk (w : World) : Prop := IfaceAt 4 w ∧ IfaceAt 5 w
theorem ErrOk.grew {w w' : World} (h : ErrOk w) (hb : Grew w w') : ErrOk w' := ⟨h.1.grew hb, h.2.grew hb⟩

/-- A number that was taken, or the reason why not. -/
def takeV (l : List UInt8) : Value := if l = [] then .tuple #[.int .i64 0, .int .i64 3] else match Pure.takeN l with
  | some v => .tuple #[.int .i64 v, .int .i64 0]
  | none => .tuple #[.int .i64 0, .int .i64 4]

set_option maxRecDepth 100000 in
set_option maxHeartbeats 1000000 in
theorem hexa_TakeNumber (s : ByteArray) (w : World) (hs : s.size ≤ 1099511627776) (ht : TabOk w) (he : ErrOk w) :
    Calls Tryd.prog 55 #[.string s] w fun e w' => e = .returned (takeV s.data.toList) ∧ Grew w w' := by
  have g0 : Grew w w := Below.refl _ _
  by_cases hne : s.data.toList = []
  · have hv : takeV s.data.toList = .tuple #[.int .i64 0, .int .i64 3] := by unfold takeV; rw [if_pos hne]
    have hem : s.toList.isEmpty = true := by rw [ByteArray.toList_eq, hne]; rfl
    rw [hv]
    clear hv hne ht he
    go_enter Tryd.func55, Tryd.ntmps55
    go_wp2
    go_ret2
    exact ⟨rfl, g0⟩
  have hem : s.toList.isEmpty = false := by
    rw [ByteArray.toList_eq]
    cases h : s.data.toList with
    | nil => exact absurd h hne
    | cons a b => rfl
  have HN := Lib.hid hne
  obtain ⟨⟨e1, he1, hf1⟩, ⟨e2, he2, hf2⟩⟩ := he
  clear hne
  cases hq : Lib.parseIntB 64 s.data.toList
  · rename_i v
    have hv := Pure.parse_in hq
    have cp := Any.strconv_ParseInt_10_at64_ok Tryd.laysC174 s (by omega) v hq w
    have cn := (fun W g => hexa_Number v W hv.1 hv.2 (ht.grew g) : ∀ W, Grew w W → _)
    have cp' : Calls Tryd.prog 70 #[.string s, .int .i64 10, .int .i64 64] w fun e w' => e = .returned (.tuple #[.int .i64 v, .nilIface]) ∧ Grew w w' := by
      refine cp.mono ?_
      rintro e w' ⟨rfl, rfl | ⟨t, rfl⟩⟩
      · exact ⟨rfl, Below.refl _ _⟩
      · exact ⟨rfl, Lib.bytesWorld_below _ _ _⟩
    obtain ⟨N, hN⟩ : ∃ N : ByteArray, (⟨(Lib.itoa v).toArray⟩ : ByteArray) = N := ⟨_, rfl⟩
    have hNd : N.data.toList = Lib.itoa v := by rw [← hN]
    rw [hN] at cn
    by_cases hE : Lib.itoa v = s.data.toList
    · have ht : takeV s.data.toList = .tuple #[.int .i64 v, .int .i64 0] := by
        unfold takeV Pure.takeN
        rw [if_neg HN.out, hq]
        simp only [hE, if_true]
      have heq : (N.toList == s.toList) = true := by rw [ByteArray.toList_eq, ByteArray.toList_eq, hNd, hE]; simp
      rw [ht]
      clear hq hv ht cp hN hNd hE he1 he2 hf1 hf2 HN
      go_enter Tryd.func55, Tryd.ntmps55
      go_wp2_with (first | (go_at_call 70; with_reducible refine (cp').mono ?_; rintro e1 W1 ⟨rfl, g1⟩; replace g1 := Grew.trans' (a := w) (by assumption) g1) | (go_at_call 31; with_reducible refine (cn _ (by assumption)).mono ?_; rintro e1 W1 ⟨rfl, g1⟩; replace g1 := Grew.trans' (a := w) (by assumption) g1))
      go_ret2
      exact ⟨rfl, by assumption⟩
    · have ht : takeV s.data.toList = .tuple #[.int .i64 0, .int .i64 4] := by
        unfold takeV Pure.takeN
        rw [if_neg HN.out, hq]
        simp only [hE, if_false]
      have heq : (N.toList == s.toList) = false := by rw [ByteArray.toList_eq, ByteArray.toList_eq, hNd, beq_eq_false_iff_ne]; exact hE
      rw [ht]
      clear hq hv ht cp hN hNd hE he1 he2 hf1 hf2 HN
      go_enter Tryd.func55, Tryd.ntmps55
      go_wp2_with (first | (go_at_call 70; with_reducible refine (cp').mono ?_; rintro e1 W1 ⟨rfl, g1⟩; replace g1 := Grew.trans' (a := w) (by assumption) g1) | (go_at_call 31; with_reducible refine (cn _ (by assumption)).mono ?_; rintro e1 W1 ⟨rfl, g1⟩; replace g1 := Grew.trans' (a := w) (by assumption) g1))
      go_ret2
      exact ⟨rfl, by assumption⟩
  · have ht : takeV s.data.toList = .tuple #[.int .i64 0, .int .i64 4] := by
      unfold takeV Pure.takeN
      rw [if_neg HN.out, hq]
    have cp := Any.strconv_ParseInt_10_at64_syntax Tryd.laysC174 s (by omega) hq e1 w he1 hf1
    have cp' : Calls Tryd.prog 70 #[.string s, .int .i64 10, .int .i64 64] w fun e w' => ∃ N x, e = .returned (.tuple #[.int .i64 x, .iface 126 (.pointer (some ⟨N, 0, none⟩))]) ∧ Grew w w' := by
      refine cp.mono ?_
      rintro e w' ⟨N, rfl, _, _, g1⟩
      exact ⟨N, _, rfl, g1⟩
    rw [ht]
    clear hq ht he1 he2 hf1 hf2 HN cp
    go_enter Tryd.func55, Tryd.ntmps55
    go_wp2_with (go_at_call 70; with_reducible refine cp'.mono ?_; rintro e w1 ⟨N, x, rfl, g1⟩)
    go_ret2
    exact ⟨rfl, g1⟩
  · have ht : takeV s.data.toList = .tuple #[.int .i64 0, .int .i64 4] := by
      unfold takeV Pure.takeN
      rw [if_neg HN.out, hq]
    have cp := Any.strconv_ParseInt_10_at64_range Tryd.laysC174 s (by omega) hq e2 w he2 hf2
    have cp' : Calls Tryd.prog 70 #[.string s, .int .i64 10, .int .i64 64] w fun e w' => ∃ N x, e = .returned (.tuple #[.int .i64 x, .iface 126 (.pointer (some ⟨N, 0, none⟩))]) ∧ Grew w w' := by
      refine cp.mono ?_
      rintro e w' ⟨N, rfl, _, _, g1⟩
      exact ⟨N, _, rfl, g1⟩
    rw [ht]
    clear hq ht he1 he2 hf1 hf2 HN cp
    go_enter Tryd.func55, Tryd.ntmps55
    go_wp2_with (go_at_call 70; with_reducible refine cp'.mono ?_; rintro e w1 ⟨N, x, rfl, g1⟩)
    go_ret2
    exact ⟨rfl, g1⟩

end Go.Proofs.YtemojhcbhljemaaDoor

/- The reference's line, two and Lines: extras and copies that stand at the beginning of a text. Conditions: at most 2^30 bytes. -/
import Derived.Test.YtkdmhflcpfekfaaDoorRef17a
import Derived.Test.YtkdmhflcpfekfaaDoorChg4
import Derived.Test.YtkdmhflcpfekfaaDoorM4
namespace Go.Proofs.YtkdmhflcpfekfaaDoor
set_option linter.unusedVariables false
set_option linter.unusedSimpArgs false
open Go.RowKit

/-- Where a byte stands first, and what is cut there. -/
theorem cut_index (l : List UInt8) (c : UInt8) : match Pure.cutC c l with | none => Lib.index l [c] = -1 | some (a, b) => Lib.index l [c] = (a.length : Int) := by
  have h := Pure.cut_one l c
  unfold Lib.cut at h
  cases hq : Pure.cutC c l with
  | none =>
    simp only
    rw [hq] at h
    simp only at h
    split at h
    · simp at h
    · have := Lib.index_ge l [c]
      omega
  | some y =>
    obtain ⟨a, b⟩ := y
    simp only
    rw [hq] at h
    simp only at h
    split at h
    · rename_i h0
      simp only [Prod.mk.injEq] at h
      have h1 := h.1
      have hl := Pure.cutC_len hq
      have h2 := congrArg List.length h1
      have h3 := congrArg List.length h.2.1
      rw [List.length_take] at h2
      rw [List.length_drop] at h3
      simp only [List.length_cons, List.length_nil] at h3
      omega
    · simp at h
theorem ext_of (q : ByteArray) (i j : Nat) (l : List UInt8) (h : (q.data.toList.take j).drop i = l) : q.extract i j = ⟨l.toArray⟩ := by
  have h2 := mk_list' (q.extract i j)
  rw [← h2, ByteArray.data_extract]
  simp only [Array.toList_extract, List.extract_eq_take_drop]
  rw [← h, List.drop_take]
theorem cut_parts {s : ByteArray} {c : UInt8} {a b : List UInt8} (h : Pure.cutC c s.data.toList = some (a, b)) : s.extract 0 a.length = ⟨a.toArray⟩ ∧ s.extract (a.length + 1) s.size = ⟨b.toArray⟩ ∧ a.length + b.length + 1 = s.size := by
  have hl := Pure.cutC_len h
  have hs : s.data.toList.length = s.size := Array.length_toList
  have e := ((Pure.cutC_some _ _ _ _).1 h).1
  refine ⟨ext_of _ _ _ _ ?_, ext_of _ _ _ _ ?_, by omega⟩
  · rw [e, List.drop_zero, List.take_left]
  · rw [List.take_of_length_le (by omega), e, show a ++ c :: b = (a ++ [c]) ++ b by simp, List.drop_left' (by simp)]

set_option maxRecDepth 100000 in
theorem ref17_line (s : ByteArray) (w : World) (hs : s.size ≤ 1073741824) :
    Calls Tryd.prog 49 #[.string s] w fun e w' => ∃ (a r : ByteArray) (is : Bool), e = .returned (.tuple #[.string a, .string r, .bool is]) ∧ Grew w w' ∧ a.size ≤ s.size ∧ ((is = true ∧ a.size + r.size + 1 = s.size ∧ Hid (Pure.cutC 10 s.data.toList = some (a.data.toList, r.data.toList))) ∨ (is = false ∧ a = ⟨#[]⟩ ∧ r = s ∧ Hid (Pure.cutC 10 s.data.toList = none))) := by
  have gww : Grew w w := Below.refl _ _
  have cF := fun W => help_Find s ⟨#[10]⟩ W (by omega) (by decide) (by decide)
  have hcd : (⟨#[10]⟩ : ByteArray).data.toList = [10] := rfl
  simp only [hcd] at cF
  have hci := cut_index s.data.toList 10
  obtain ⟨o, hc⟩ : ∃ o, Pure.cutC 10 s.data.toList = o := ⟨_, rfl⟩
  cases o with
  | none =>
    rw [hc] at hci
    simp only at hci
    simp only [hci] at cF
    have HC := Lib.hid hc
    clear hc hci
    go_enter Tryd.func49, Tryd.ntmps49
    go_wp2_with (go_at_call 23; with_reducible refine (cF _).mono ?_; rintro e9 W9 ⟨rfl, h9⟩; subst W9)
    go_ret3
    exact ⟨_, _, _, rfl, gww, Nat.zero_le _, .inr ⟨rfl, rfl, rfl, HC⟩⟩
  | some y =>
    obtain ⟨a, b⟩ := y
    rw [hc] at hci
    simp only at hci
    obtain ⟨p1, p2, p3⟩ := cut_parts hc
    obtain ⟨e, he⟩ : ∃ e, a.length = e := ⟨_, rfl⟩
    rw [he] at hci p1 p2 p3
    simp only [hci] at cF
    obtain ⟨A, hA⟩ : ∃ A : ByteArray, (⟨a.toArray⟩ : ByteArray) = A := ⟨_, rfl⟩
    obtain ⟨B, hB⟩ : ∃ A : ByteArray, (⟨b.toArray⟩ : ByteArray) = A := ⟨_, rfl⟩
    rw [hA] at p1
    rw [hB] at p2
    have hAs : A.size = e := by rw [← hA, ← he]; show a.toArray.size = _; simp
    have hBs : B.size = b.length := by rw [← hB]; show b.toArray.size = _; simp
    have HC : Hid (Pure.cutC 10 s.data.toList = some (A.data.toList, B.data.toList)) := by rw [← hA, ← hB]; exact hc
    have he0 : decide ((e : Int) < 0) = false := decide_eq_false (by omega)
    have o1 : e ≤ s.size := by omega
    have hw : IntKind.i64.wrap ((e : Int) + 1) = (e : Int) + 1 := IntWalk.i64_in _ (by omega)
    have o2 : (e : Int) + 1 ≤ (s.size : Int) := by omega
    have o3 : (0 : Int) ≤ (e : Int) + 1 := by omega
    clear hc hci he hA hB
    go_enter Tryd.func49, Tryd.ntmps49
    go_wp2_with (go_at_call 23; with_reducible refine (cF _).mono ?_; rintro e9 W9 ⟨rfl, h9⟩; subst W9)
    refine wp_region_held_drew (S := fun w' => Grew w w') (by kernel_rfl) (by first | assumption | exact Below.drew (by assumption)) (fun hHeld => ?_)
    first
      | (refine wpAnyH_take (i := 0) (v := ?_) rfl (by kernel_rfl) (by kernel_rfl) (by kernel_rfl) (fun _ _ _ h => h) (Or.inl ⟨by rfl, ?_⟩) (by assumption) ?_; rotate_left 1; focus (intro w hSw; (try dsimp only at hSw); go_simp; (try with_reducible rfl)))
      | fail
    try simp only [Act.put, List.getElem_toArray, List.getElem_cons_succ, List.getElem_cons_zero, List.setIfInBounds_toArray, List.set_cons_zero, List.set_cons_succ]
    first
      | (refine wpAnyH_take (i := 1) (v := ?_) rfl (by kernel_rfl) (by kernel_rfl) (by kernel_rfl) (fun _ _ _ h => h) (Or.inl ⟨by rfl, ?_⟩) (by assumption) ?_; rotate_left 1; focus (intro w hSw; (try dsimp only at hSw); go_simp; (try with_reducible rfl)))
      | fail
    try simp only [Act.put, List.getElem_toArray, List.getElem_cons_succ, List.getElem_cons_zero, List.setIfInBounds_toArray, List.set_cons_zero, List.set_cons_succ]
    first
      | (refine wpAnyH_take (i := 2) (v := ?_) rfl (by kernel_rfl) (by kernel_rfl) (by kernel_rfl) (fun _ _ _ h => h) (Or.inl ⟨by rfl, ?_⟩) (by assumption) ?_; rotate_left 1; focus (intro w hSw; (try dsimp only at hSw); go_simp; (try with_reducible rfl)))
      | fail
    try simp only [Act.put, List.getElem_toArray, List.getElem_cons_succ, List.getElem_cons_zero, List.setIfInBounds_toArray, List.set_cons_zero, List.set_cons_succ]
    first
      | (refine wpAnyH_take (i := 3) (v := ?_) rfl (by kernel_rfl) (by kernel_rfl) (by kernel_rfl) (fun _ _ _ h => h) (Or.inl ⟨by rfl, ?_⟩) (by assumption) ?_; rotate_left 1; focus (intro w hSw; (try dsimp only at hSw); go_simp; (try with_reducible rfl)))
      | fail
    try simp only [Act.put, List.getElem_toArray, List.getElem_cons_succ, List.getElem_cons_zero, List.setIfInBounds_toArray, List.set_cons_zero, List.set_cons_succ]
    first
      | (refine wpAnyH_take (i := 4) (v := ?_) rfl (by kernel_rfl) (by kernel_rfl) (by kernel_rfl) (fun _ _ _ h => h) (Or.inl ⟨by rfl, ?_⟩) (by assumption) ?_; rotate_left 1; focus (intro w hSw; (try dsimp only at hSw); go_simp; (try with_reducible rfl)))
      | fail
    try simp only [Act.put, List.getElem_toArray, List.getElem_cons_succ, List.getElem_cons_zero, List.setIfInBounds_toArray, List.set_cons_zero, List.set_cons_succ]
    first
      | (refine wpAnyH_take (i := 5) (v := ?_) rfl (by kernel_rfl) (by kernel_rfl) (by kernel_rfl) (fun _ _ _ h => h) (Or.inl ⟨by rfl, ?_⟩) (by assumption) ?_; rotate_left 1; focus (intro w hSw; (try dsimp only at hSw); go_simp; (try with_reducible rfl)))
      | fail
    try simp only [Act.put, List.getElem_toArray, List.getElem_cons_succ, List.getElem_cons_zero, List.setIfInBounds_toArray, List.set_cons_zero, List.set_cons_succ]
    first
      | (refine wpAnyH_take (i := 6) (v := ?_) rfl (by kernel_rfl) (by kernel_rfl) (by kernel_rfl) (fun _ _ _ h => h) (Or.inl ⟨by rfl, ?_⟩) (by assumption) ?_; rotate_left 1; focus (intro w hSw; (try dsimp only at hSw); go_simp; (try with_reducible rfl)))
      | fail
    try simp only [Act.put, List.getElem_toArray, List.getElem_cons_succ, List.getElem_cons_zero, List.setIfInBounds_toArray, List.set_cons_zero, List.set_cons_succ]
    first
      | (refine wpAnyH_take (i := 7) (v := ?_) rfl (by kernel_rfl) (by kernel_rfl) (by kernel_rfl) (fun _ _ _ h => h) (Or.inl ⟨by rfl, ?_⟩) (by assumption) ?_; rotate_left 1; focus (intro w hSw; (try dsimp only at hSw); go_simp; (try with_reducible rfl)))
      | fail
    try simp only [Act.put, List.getElem_toArray, List.getElem_cons_succ, List.getElem_cons_zero, List.setIfInBounds_toArray, List.set_cons_zero, List.set_cons_succ]
    first
      | (refine wpAnyH_take (i := 8) (v := ?_) rfl (by kernel_rfl) (by kernel_rfl) (by kernel_rfl) (fun _ _ _ h => h) (Or.inl ⟨by rfl, ?_⟩) (by assumption) ?_; rotate_left 1; focus (intro w hSw; (try dsimp only at hSw); go_simp; (try with_reducible rfl)))
      | fail
    try simp only [Act.put, List.getElem_toArray, List.getElem_cons_succ, List.getElem_cons_zero, List.setIfInBounds_toArray, List.set_cons_zero, List.set_cons_succ]
    first
      | (refine wpAnyH_take (i := 9) (v := ?_) rfl (by kernel_rfl) (by kernel_rfl) (by kernel_rfl) (fun _ _ _ h => h) (Or.inl ⟨by rfl, ?_⟩) (by assumption) ?_; rotate_left 1; focus (intro w hSw; (try dsimp only at hSw); go_simp; (try with_reducible rfl)))
      | fail
    try simp only [Act.put, List.getElem_toArray, List.getElem_cons_succ, List.getElem_cons_zero, List.setIfInBounds_toArray, List.set_cons_zero, List.set_cons_succ]
    refine wpAnyH_done (by kernel_rfl) ?_ _
    go_wp2
    go_ret3
    exact ⟨_, _, _, rfl, by assumption, by omega, .inl ⟨rfl, by omega, HC⟩⟩

set_option maxRecDepth 100000 in
theorem ref17_two (s : ByteArray) (w : World) (hs : s.size ≤ 1073741824) :
    Calls Tryd.prog 50 #[.string s] w fun e w' => ∃ (a b : ByteArray), e = .returned (.tuple #[.string a, .string b]) ∧ Grew w w' ∧ a.size ≤ s.size ∧ b.size ≤ s.size ∧ Hid (twoR s.data.toList = (a.data.toList, b.data.toList)) := by
  have gww : Grew w w := Below.refl _ _
  have cF := fun W => help_Find s ⟨#[32]⟩ W (by omega) (by decide) (by decide)
  have hcd : (⟨#[32]⟩ : ByteArray).data.toList = [32] := rfl
  simp only [hcd] at cF
  have hci := cut_index s.data.toList 32
  obtain ⟨o, hc⟩ : ∃ o, Pure.cutC 32 s.data.toList = o := ⟨_, rfl⟩
  cases o with
  | none =>
    rw [hc] at hci
    simp only at hci
    simp only [hci] at cF
    have HC : Hid (twoR s.data.toList = (s.data.toList, [])) := by unfold Hid twoR; rw [hc]
    clear hc hci
    go_enter Tryd.func50, Tryd.ntmps50
    go_wp2_with (go_at_call 23; with_reducible refine (cF _).mono ?_; rintro e9 W9 ⟨rfl, h9⟩; subst W9)
    go_ret2
    exact ⟨_, _, rfl, gww, Nat.le_refl _, Nat.zero_le _, HC⟩
  | some y =>
    obtain ⟨a, b⟩ := y
    rw [hc] at hci
    simp only at hci
    obtain ⟨p1, p2, p3⟩ := cut_parts hc
    obtain ⟨e, he⟩ : ∃ e, a.length = e := ⟨_, rfl⟩
    rw [he] at hci p1 p2 p3
    simp only [hci] at cF
    obtain ⟨A, hA⟩ : ∃ A : ByteArray, (⟨a.toArray⟩ : ByteArray) = A := ⟨_, rfl⟩
    obtain ⟨B, hB⟩ : ∃ A : ByteArray, (⟨b.toArray⟩ : ByteArray) = A := ⟨_, rfl⟩
    rw [hA] at p1
    rw [hB] at p2
    have hAs : A.size = e := by rw [← hA, ← he]; show a.toArray.size = _; simp
    have hBs : B.size = b.length := by rw [← hB]; show b.toArray.size = _; simp
    have HC : Hid (twoR s.data.toList = (A.data.toList, B.data.toList)) := by unfold Hid twoR; rw [hc, ← hA, ← hB]
    have he0 : decide ((e : Int) < 0) = false := decide_eq_false (by omega)
    have o1 : e ≤ s.size := by omega
    have hw : IntKind.i64.wrap ((e : Int) + 1) = (e : Int) + 1 := IntWalk.i64_in _ (by omega)
    have o2 : (e : Int) + 1 ≤ (s.size : Int) := by omega
    have o3 : (0 : Int) ≤ (e : Int) + 1 := by omega
    clear hc hci he hA hB
    go_enter Tryd.func50, Tryd.ntmps50
    go_wp2_with (go_at_call 23; with_reducible refine (cF _).mono ?_; rintro e9 W9 ⟨rfl, h9⟩; subst W9)
    refine wp_region_held_drew (S := fun w' => Grew w w') (by kernel_rfl) (by first | assumption | exact Below.drew (by assumption)) (fun hHeld => ?_)
    first
      | (refine wpAnyH_take (i := 0) (v := ?_) rfl (by kernel_rfl) (by kernel_rfl) (by kernel_rfl) (fun _ _ _ h => h) (Or.inl ⟨by rfl, ?_⟩) (by assumption) ?_; rotate_left 1; focus (intro w hSw; (try dsimp only at hSw); go_simp; (try with_reducible rfl)))
      | fail
    try simp only [Act.put, List.getElem_toArray, List.getElem_cons_succ, List.getElem_cons_zero, List.setIfInBounds_toArray, List.set_cons_zero, List.set_cons_succ]
    first
      | (refine wpAnyH_take (i := 1) (v := ?_) rfl (by kernel_rfl) (by kernel_rfl) (by kernel_rfl) (fun _ _ _ h => h) (Or.inl ⟨by rfl, ?_⟩) (by assumption) ?_; rotate_left 1; focus (intro w hSw; (try dsimp only at hSw); go_simp; (try with_reducible rfl)))
      | fail
    try simp only [Act.put, List.getElem_toArray, List.getElem_cons_succ, List.getElem_cons_zero, List.setIfInBounds_toArray, List.set_cons_zero, List.set_cons_succ]
    first
      | (refine wpAnyH_take (i := 2) (v := ?_) rfl (by kernel_rfl) (by kernel_rfl) (by kernel_rfl) (fun _ _ _ h => h) (Or.inl ⟨by rfl, ?_⟩) (by assumption) ?_; rotate_left 1; focus (intro w hSw; (try dsimp only at hSw); go_simp; (try with_reducible rfl)))
      | fail
    try simp only [Act.put, List.getElem_toArray, List.getElem_cons_succ, List.getElem_cons_zero, List.setIfInBounds_toArray, List.set_cons_zero, List.set_cons_succ]
    first
      | (refine wpAnyH_take (i := 3) (v := ?_) rfl (by kernel_rfl) (by kernel_rfl) (by kernel_rfl) (fun _ _ _ h => h) (Or.inl ⟨by rfl, ?_⟩) (by assumption) ?_; rotate_left 1; focus (intro w hSw; (try dsimp only at hSw); go_simp; (try with_reducible rfl)))
      | fail
    try simp only [Act.put, List.getElem_toArray, List.getElem_cons_succ, List.getElem_cons_zero, List.setIfInBounds_toArray, List.set_cons_zero, List.set_cons_succ]
    first
      | (refine wpAnyH_take (i := 4) (v := ?_) rfl (by kernel_rfl) (by kernel_rfl) (by kernel_rfl) (fun _ _ _ h => h) (Or.inl ⟨by rfl, ?_⟩) (by assumption) ?_; rotate_left 1; focus (intro w hSw; (try dsimp only at hSw); go_simp; (try with_reducible rfl)))
      | fail
    try simp only [Act.put, List.getElem_toArray, List.getElem_cons_succ, List.getElem_cons_zero, List.setIfInBounds_toArray, List.set_cons_zero, List.set_cons_succ]
    first
      | (refine wpAnyH_take (i := 5) (v := ?_) rfl (by kernel_rfl) (by kernel_rfl) (by kernel_rfl) (fun _ _ _ h => h) (Or.inl ⟨by rfl, ?_⟩) (by assumption) ?_; rotate_left 1; focus (intro w hSw; (try dsimp only at hSw); go_simp; (try with_reducible rfl)))
      | fail
    try simp only [Act.put, List.getElem_toArray, List.getElem_cons_succ, List.getElem_cons_zero, List.setIfInBounds_toArray, List.set_cons_zero, List.set_cons_succ]
    first
      | (refine wpAnyH_take (i := 6) (v := ?_) rfl (by kernel_rfl) (by kernel_rfl) (by kernel_rfl) (fun _ _ _ h => h) (Or.inl ⟨by rfl, ?_⟩) (by assumption) ?_; rotate_left 1; focus (intro w hSw; (try dsimp only at hSw); go_simp; (try with_reducible rfl)))
      | fail
    try simp only [Act.put, List.getElem_toArray, List.getElem_cons_succ, List.getElem_cons_zero, List.setIfInBounds_toArray, List.set_cons_zero, List.set_cons_succ]
    first
      | (refine wpAnyH_take (i := 7) (v := ?_) rfl (by kernel_rfl) (by kernel_rfl) (by kernel_rfl) (fun _ _ _ h => h) (Or.inl ⟨by rfl, ?_⟩) (by assumption) ?_; rotate_left 1; focus (intro w hSw; (try dsimp only at hSw); go_simp; (try with_reducible rfl)))
      | fail
    try simp only [Act.put, List.getElem_toArray, List.getElem_cons_succ, List.getElem_cons_zero, List.setIfInBounds_toArray, List.set_cons_zero, List.set_cons_succ]
    first
      | (refine wpAnyH_take (i := 8) (v := ?_) rfl (by kernel_rfl) (by kernel_rfl) (by kernel_rfl) (fun _ _ _ h => h) (Or.inl ⟨by rfl, ?_⟩) (by assumption) ?_; rotate_left 1; focus (intro w hSw; (try dsimp only at hSw); go_simp; (try with_reducible rfl)))
      | fail
    try simp only [Act.put, List.getElem_toArray, List.getElem_cons_succ, List.getElem_cons_zero, List.setIfInBounds_toArray, List.set_cons_zero, List.set_cons_succ]
    refine wpAnyH_done (by kernel_rfl) ?_ _
    go_wp2
    go_ret2
    exact ⟨_, _, rfl, by assumption, by omega, by omega, HC⟩

/-- What Lines leaves. -/
def LinesPost (s : List UInt8) (w : World) (e : Ending) (w' : World) : Prop := Grew w w' ∧
  ∃ l c r v u, takeR s.length [] [] s = (l, c, r.data.toList) ∧ e = .returned (.tuple #[v, u, .string r]) ∧ OwnG kExtra w' w.heap.size v l ∧ OwnG kCopy w' w.heap.size u c ∧ (∀ x ∈ l, FineW x) ∧ (∀ x ∈ c, FineW x) ∧ r.size + l.length + c.length ≤ s.length
theorem takeR_stop {s0 s : List UInt8} {ls cs : List Two} (hta : takeR s0.length [] [] s0 = takeR s.length ls cs s) (h : stepR s = .stop) : takeR s0.length [] [] s0 = (ls, cs, s) := by rw [hta, takeR_step, h]
theorem takeR_ex {s0 s r : List UInt8} {ls cs : List Two} {x : Two} (hta : takeR s0.length [] [] s0 = takeR s.length ls cs s) (h : stepR s = .extra x r) : takeR s0.length [] [] s0 = takeR r.length (ls ++ [x]) cs r := by rw [hta, takeR_step, h]
theorem takeR_cp {s0 s r : List UInt8} {ls cs : List Two} {x : Two} (hta : takeR s0.length [] [] s0 = takeR s.length ls cs s) (h : stepR s = .copy x r) : takeR s0.length [] [] s0 = takeR r.length ls (cs ++ [x]) r := by rw [hta, takeR_step, h]
theorem stepR_of {s a r : List UInt8} (h : Pure.cutC 10 s = some (a, r)) : stepR s = if Lib.hasPrefix a extraB then .extra ⟨⟨(twoR (a.drop 6)).1.toArray⟩, ⟨(unR (twoR (a.drop 6)).2).toArray⟩⟩ r
    else if Lib.hasPrefix a copyB then .copy ⟨⟨(unR (twoR (a.drop 5)).1).toArray⟩, ⟨(unR (twoR (a.drop 5)).2).toArray⟩⟩ r
    else .stop := by unfold stepR; rw [h]
/-- What the reference's Unhex leaves, in one form. -/
theorem unR_uniform {s : ByteArray} {w w' : World} {e : Ending} (h : UnhexPost s w e w') : ∃ (p : Option Addr) (c : Nat) (E : Int), e = .returned (.tuple #[.slice p (unR s.data.toList).length c, .int .i64 E]) ∧ Rd w' p (unR s.data.toList) ∧ Grew w w' ∧ 2 * (unR s.data.toList).length ≤ s.size := by
  obtain ⟨g, ⟨l, v, h1, rfl, h2⟩ | ⟨h1, rfl⟩⟩ := h
  · obtain ⟨-, p, c, rfl, -, -, hr⟩ := rd_of_owns h2
    have h3 := Pure.unhex_length h1
    have h4 : s.data.toList.length = s.size := Array.length_toList
    have h5 : unR s.data.toList = l := by unfold unR; rw [h1]; rfl
    rw [h5]
    exact ⟨p, c, 0, rfl, hr, g, by omega⟩
  · have h5 : unR s.data.toList = [] := by unfold unR; rw [h1]; rfl
    rw [h5]
    exact ⟨none, 0, 4, rfl, .inl rfl, g, by simp⟩
theorem tail_of {a p : ByteArray} (h : Lib.hasPrefix a.data.toList p.data.toList = true) : p.size ≤ a.size ∧ (a.extract p.size a.size).data.toList = a.data.toList.drop p.size := by
  unfold Lib.hasPrefix at h
  rw [List.isPrefixOf_iff_prefix] at h
  obtain ⟨t, ht⟩ := h
  have hl := congrArg List.length ht
  rw [List.length_append] at hl
  have h1 : a.data.toList.length = a.size := Array.length_toList
  have h2 : p.data.toList.length = p.size := Array.length_toList
  refine ⟨by omega, ?_⟩
  rw [ByteArray.data_extract]
  simp only [Array.toList_extract, List.extract_eq_take_drop]
  rw [List.take_of_length_le (by rw [List.length_drop]; omega)]

set_option maxRecDepth 100000 in
set_option maxHeartbeats 8000000 in
theorem ref17_Lines (s0 : ByteArray) (w : World) (hs0 : s0.size ≤ 1073741824) :
    Calls Tryd.prog 31 #[.string s0] w (LinesPost s0.data.toList w) := by
  have hl0 : s0.data.toList.length = s0.size := Array.length_toList
  have HL0 := Lib.hid hl0
  have g0 : Grew w w := Below.refl _ _
  clear hl0
  go_enter Tryd.func31, Tryd.ntmps31
  go_wp2
  go_loopw [0, 5, 6] (fun sv lv cv wr => ∃ (s : ByteArray) (ls cs : List Two) (v u : Value), .string s = sv ∧ v = lv ∧ u = cv ∧ Grew w wr ∧ OwnG kExtra wr w.heap.size v ls ∧ OwnG kCopy wr w.heap.size u cs ∧ Apart v u ∧ s.size + ls.length + cs.length ≤ s0.size ∧ Hid (takeR s0.data.toList.length [] [] s0.data.toList = takeR s.data.toList.length ls cs s.data.toList) ∧ Hid (∀ x ∈ ls, FineW x) ∧ Hid (∀ x ∈ cs, FineW x)) (fun sv _ _ _ => match sv with | .string s => s.size | _ => 0)
  case atStart => exact ⟨s0, [], [], _, _, rfl, rfl, rfl, g0, OwnG.nil _ _ _, OwnG.nil _ _ _, fun g h => by simp [Value.ownBlock] at h, by simp, rfl, by simp [Hid], by simp [Hid]⟩
  case round =>
    obtain ⟨s, ls, cs, v, u, rfl, rfl, rfl, hb, hol, hoc, hap, hsz, hta, hfl, hfc⟩ := hrel
    clear g0
    obtain ⟨wo, rfl⟩ : ∃ wo : World, wo = wr := ⟨_, rfl⟩
    have cC := ref17_line s wo (by omega)
    go_wp2_with (go_at_call 49; with_reducible refine cC.mono ?_)
    rintro e1 W1 ⟨a, r, is, rfl, g1, has, ⟨rfl, hrs, hc⟩ | ⟨rfl, rfl, rfl, hc⟩⟩
    rotate_right
    · have hst : stepR r.data.toList = .stop := by unfold stepR; rw [hc.out]
      have hts := takeR_stop hta.out hst
      have HTS := Lib.hid hts
      have hol3 := hol.below g1
      have hoc3 := hoc.below g1
      have gw1 := hb.trans' g1
      clear hst hts hc hol hoc cC
      go_wp2
      go_ret3
      exact ⟨gw1, ls, cs, r, v, u, HTS.out, rfl, hol3, hoc3, hfl.out, hfc.out, by rw [HL0.out]; exact hsz⟩
    · have gw1 := hb.trans' g1
      have hol1 := hol.below g1
      have hoc1 := hoc.below g1
      have hst := stepR_of hc.out
      have cB1 := fun W => help_Begins a ⟨#[101, 120, 116, 114, 97, 32]⟩ W
      have cB2 := fun W => help_Begins a ⟨#[99, 111, 112, 121, 32]⟩ W
      have t1 := tail_of (a := a) (p := ⟨#[101, 120, 116, 114, 97, 32]⟩)
      have t2 := tail_of (a := a) (p := ⟨#[99, 111, 112, 121, 32]⟩)
      have h1d : (⟨#[101, 120, 116, 114, 97, 32]⟩ : ByteArray).data.toList = extraB := rfl
      have h2d : (⟨#[99, 111, 112, 121, 32]⟩ : ByteArray).data.toList = copyB := rfl
      have h1e : (⟨#[101, 120, 116, 114, 97, 32]⟩ : ByteArray).size = 6 := rfl
      have h2e : (⟨#[99, 111, 112, 121, 32]⟩ : ByteArray).size = 5 := rfl
      (try simp only [h1d] at cB1)
      (try simp only [h2d] at cB2)
      rw [h1d, h1e] at t1
      rw [h2d, h2e] at t2
      obtain ⟨B1, hB1⟩ : ∃ B, Lib.hasPrefix a.data.toList extraB = B := ⟨_, rfl⟩
      obtain ⟨B2, hB2⟩ : ∃ B, Lib.hasPrefix a.data.toList copyB = B := ⟨_, rfl⟩
      rw [hB1, hB2] at hst
      rw [hB1] at t1
      rw [hB2] at t2
      have cB1 : ∀ W, Calls Tryd.prog 30 #[.string a, .string ⟨#[101, 120, 116, 114, 97, 32]⟩] W fun e w' => e = .returned (.bool B1) ∧ w' = W := by rw [← hB1]; exact cB1
      have cB2 : ∀ W, Calls Tryd.prog 30 #[.string a, .string ⟨#[99, 111, 112, 121, 32]⟩] W fun e w' => e = .returned (.bool B2) ∧ w' = W := by rw [← hB2]; exact cB2
      have HOL := Lib.hid hol1
      have HOC := Lib.hid hoc1
      clear hB1 hB2 h1d h2d h1e h2e hc hol hoc hol1 hoc1 cC
      cases B1 with
      | true =>
        obtain ⟨ts, tl⟩ := t1 rfl
        obtain ⟨X, hX⟩ : ∃ X, a.extract 6 a.size = X := ⟨_, rfl⟩
        rw [hX] at tl
        have hXs : X.size ≤ a.size := by rw [← hX, ByteArray.size_extract]; omega
        rw [if_pos (by first | rfl | trivial), ← tl] at hst
        have HST := Lib.hid hst
        have cT := ref17_two X W1 (by omega)
        clear hst tl t1 t2 cB2
        go_wp2_with (first | (go_at_call 30; with_reducible refine (cB1 _).mono ?_; rintro e9 W9 ⟨rfl, h9⟩; subst W9) | (go_at_call 50; with_reducible refine cT.mono ?_))
        rintro e2 W2 ⟨k, y, rfl, g2, hka, hya, htw⟩
        have gw2 := gw1.trans' g2
        have cU := (ref_Unhex y W2 (by omega)).mono (fun _ _ h => unR_uniform h)
        clear cT
        go_wp2_with (go_at_call 51; with_reducible refine cU.mono ?_)
        rintro e3 W3 ⟨pb, cb, E, rfl, hrb, g3, hbl⟩
        have gw3 := gw2.trans' g3
        have kc := conv_string cb hrb
        obtain ⟨B, hB⟩ : ∃ B : ByteArray, (⟨(unR y.data.toList).toArray⟩ : ByteArray) = B := ⟨_, rfl⟩
        have hBs : B.size = (unR y.data.toList).length := by rw [← hB]; show (unR y.data.toList).toArray.size = _; simp
        have hst2 := HST.out
        rw [htw.out] at hst2
        (try simp only at hst2)
        rw [mk_list', hB] at hst2
        have hte := takeR_ex hta.out hst2
        rw [hB] at kc
        have hfx := fine_snoc hfl.out (x := ⟨k, B⟩) ⟨by show k.size ≤ _; omega, by show B.size ≤ _; omega⟩
        have HTE := Lib.hid hte
        have HFX := Lib.hid hfx
        have hoA := (HOL.out.below (g2.trans' g3)).alloc1 (.cells #[.string k, .string B] 28)
        have hoB := (HOC.out.below (g2.trans' g3)).alloc1 (.cells #[.string k, .string B] 28)
        have gwA : Grew w (W3.alloc (.cells #[.string k, .string B] 28)) := Below.alloc gw3 gw3.size _
        have hrA : (W3.alloc (.cells #[.string k, .string B] 28)).rangeAt W3.heap.size 0 (kExtra.cells ⟨k, B⟩) := range_row (heap_alloc_new W3 (.cells #[.string k, .string B] 28))
        have hAs := gwA.size
        have HOA := Lib.hid hoA
        have HOB := Lib.hid hoB
        have HRA := Lib.hid hrA
        have HAS := Lib.hid hAs
        generalize (unR y.data.toList).length = nb at *
        clear hte hfx hoA hoB hrA hB hst2 htw hAs hrb cU
        go_wp2_with (at_builtin; refine wpList_append_Gat kExtra rfl _ _ rfl w.heap.size v ls ⟨k, B⟩ W3.heap.size rfl rfl HOA.out trivial HRA.out HAS.out (by omega) ?_)
        intro v4 W4 hown4 hb4 hg4 hat4
        obtain ⟨hoc4, hap4⟩ := HOB.out.other hap hg4 (hat4.imp id (fun e => e.trans (by simp)))
        have gw4 : Grew w W4 := Below.trans gwA hb4
        go_wp2
        go_roundw
        case rel => exact ⟨r, ls ++ [⟨k, B⟩], cs, v4, u, rfl, rfl, rfl, gw4, hown4, hoc4, hap4, by rw [List.length_append]; show _ + (_ + 1) + _ ≤ _; omega, HTE, HFX, hfc⟩
        case measure => show r.size < s.size; omega
      | false =>
        rw [if_neg (by simp)] at hst
        cases B2 with
        | false =>
          rw [if_neg (by simp)] at hst
          have hts := takeR_stop hta.out hst
          have HTS := Lib.hid hts
          clear hst hts t1 t2
          go_wp2_with (first | (go_at_call 30; with_reducible refine (cB1 _).mono ?_; rintro e9 W9 ⟨rfl, h9⟩; subst W9) | (go_at_call 30; with_reducible refine (cB2 _).mono ?_; rintro e9 W9 ⟨rfl, h9⟩; subst W9))
          go_ret3
          exact ⟨gw1, ls, cs, s, v, u, HTS.out, rfl, HOL.out, HOC.out, hfl.out, hfc.out, by rw [HL0.out]; exact hsz⟩
        | true =>
          obtain ⟨ts, tl⟩ := t2 rfl
          obtain ⟨X, hX⟩ : ∃ X, a.extract 5 a.size = X := ⟨_, rfl⟩
          rw [hX] at tl
          have hXs : X.size ≤ a.size := by rw [← hX, ByteArray.size_extract]; omega
          rw [if_pos (by first | rfl | trivial), ← tl] at hst
          have HST := Lib.hid hst
          have cT := ref17_two X W1 (by omega)
          clear hst tl t1 t2
          go_wp2_with (first | (go_at_call 30; with_reducible refine (cB1 _).mono ?_; rintro e9 W9 ⟨rfl, h9⟩; subst W9) | (go_at_call 30; with_reducible refine (cB2 _).mono ?_; rintro e9 W9 ⟨rfl, h9⟩; subst W9) | (go_at_call 50; with_reducible refine cT.mono ?_))
          rintro e2 W2 ⟨f, t, rfl, g2, hka, hya, htw⟩
          have gw2 := gw1.trans' g2
          have cU1 := (ref_Unhex f W2 (by omega)).mono (fun _ _ h => unR_uniform h)
          clear cT cB1 cB2
          go_wp2_with (go_at_call 51; with_reducible refine cU1.mono ?_)
          rintro e3 W3 ⟨pf, cf, E1, rfl, hrf, g3, hbf⟩
          have gw3 := gw2.trans' g3
          have cU2 := (ref_Unhex t W3 (by omega)).mono (fun _ _ h => unR_uniform h)
          clear cU1
          go_wp2_with (go_at_call 51; with_reducible refine cU2.mono ?_)
          rintro e5 W5 ⟨pt, ct, E2, rfl, hrt, g5, hbt⟩
          have gw5 := gw3.trans' g5
          have kf := conv_string cf (hrf.below g5 (Nat.le_refl _))
          have kt := conv_string ct hrt
          obtain ⟨F, hF⟩ : ∃ B : ByteArray, (⟨(unR f.data.toList).toArray⟩ : ByteArray) = B := ⟨_, rfl⟩
          obtain ⟨T, hT⟩ : ∃ B : ByteArray, (⟨(unR t.data.toList).toArray⟩ : ByteArray) = B := ⟨_, rfl⟩
          have hFs : F.size = (unR f.data.toList).length := by rw [← hF]; show (unR f.data.toList).toArray.size = _; simp
          have hTs : T.size = (unR t.data.toList).length := by rw [← hT]; show (unR t.data.toList).toArray.size = _; simp
          have hst2 := HST.out
          rw [htw.out] at hst2
          (try simp only at hst2)
          rw [hF, hT] at hst2
          have hte := takeR_cp hta.out hst2
          rw [hF] at kf
          rw [hT] at kt
          have hfx := fine_snoc hfc.out (x := ⟨F, T⟩) ⟨by show F.size ≤ _; omega, by show T.size ≤ _; omega⟩
          have HTE := Lib.hid hte
          have HFX := Lib.hid hfx
          have hoA := (HOC.out.below (g2.trans' (g3.trans' g5))).alloc1 (.cells #[.string F, .string T] 31)
          have hoB := (HOL.out.below (g2.trans' (g3.trans' g5))).alloc1 (.cells #[.string F, .string T] 31)
          have gwA : Grew w (W5.alloc (.cells #[.string F, .string T] 31)) := Below.alloc gw5 gw5.size _
          have hrA : (W5.alloc (.cells #[.string F, .string T] 31)).rangeAt W5.heap.size 0 (kCopy.cells ⟨F, T⟩) := range_row (heap_alloc_new W5 (.cells #[.string F, .string T] 31))
          have hAs := gwA.size
          have HOA := Lib.hid hoA
          have HOB := Lib.hid hoB
          have HRA := Lib.hid hrA
          have HAS := Lib.hid hAs
          generalize (unR f.data.toList).length = nf at *
          generalize (unR t.data.toList).length = nt at *
          clear hte hfx hoA hoB hrA hF hT hst2 htw hAs hrf hrt cU2
          go_wp2_with (at_builtin; refine wpList_append_Gat kCopy rfl _ _ rfl w.heap.size u cs ⟨F, T⟩ W5.heap.size rfl rfl HOA.out trivial HRA.out HAS.out (by omega) ?_)
          intro v4 W4 hown4 hb4 hg4 hat4
          obtain ⟨hol4, hap4⟩ := HOB.out.other hap.symm hg4 (hat4.imp id (fun e => e.trans (by simp)))
          have gw4 : Grew w W4 := Below.trans gwA hb4
          go_wp2
          go_roundw
          case rel => exact ⟨r, ls, cs ++ [⟨F, T⟩], v, v4, rfl, rfl, rfl, gw4, hol4, hown4, hap4.symm, by rw [List.length_append]; show _ + _ + (_ + 1) ≤ _; omega, HTE, hfl, HFX⟩
          case measure => show r.size < s.size; omega

end Go.Proofs.YtkdmhflcpfekfaaDoor

/- object.Print and the reference's Print: an object as bytes, or why not. Conditions: the library's table of powers of ten is laid, the body is at most 2^40 bytes long. -/
import Derived.Test.YtdlhabldjdkfbaaDoorObj1
import Derived.Test.YtdlhabldjdkfbaaDoorBuf
import Derived.Test.YtdlhabldjdkfbaaDoorNum1
import Derived.Test.YtdlhabldjdkfbaaDoorNum3
import Derived.Deep.RegionWith
import Derived.Deep.RegionHeldLaw
namespace Go.Proofs.YtdlhabldjdkfbaaDoor
set_option linter.unusedVariables false
set_option linter.unusedSimpArgs false
open Go.RowKit

/-- What Print leaves: bytes of its own and OK, or nil and an error. -/
def PrintPost (k : Int) (l : List UInt8) (w : World) (e : Ending) (w' : World) : Prop := Grew w w' ∧
  ((Pure.wordO k = [] ∧ e = .returned (.tuple #[.slice none 0 0, .int .i64 10])) ∨ (Pure.wordO k ≠ [] ∧ 65536 < l.length ∧ e = .returned (.tuple #[.slice none 0 0, .int .i64 5])) ∨
   (Pure.wordO k ≠ [] ∧ l.length ≤ 65536 ∧ ∃ v, e = .returned (.tuple #[v, .int .i64 0]) ∧ OwnB w' w.heap.size v (Pure.bytesO k l)))

theorem bytes_head_text (k : Int) (n : Nat) : ((⟨(Pure.wordO k).toArray⟩ : ByteArray) ++ ⟨#[32]⟩ ++ ⟨(Lib.itoa (n : Int)).toArray⟩ ++ ⟨#[0]⟩).data.toList = Pure.wordO k ++ [32] ++ Lib.itoa (n : Int) ++ [0] := by
  simp [append_list]

set_option maxRecDepth 100000 in
set_option maxHeartbeats 1000000 in
theorem object_Print (k : Int) (p : Option Addr) (l : List UInt8) (cap : Nat) (w : World) (hl : l.length ≤ 1099511627776) (hr : Rd w p l) (hT : TabOk w) :
    Calls Tryd.prog 7 #[.agg #[.int .i64 k, .slice p l.length cap]] w (PrintPost k l w) := by
  obtain ⟨W0, hW0, gw0, g0, hq⟩ := boxed w #[.int .i64 k, .slice p l.length cap] 27
  have q0 := fun W g => hq W g 0 _ rfl
  have q1 := fun W g => hq W g 1 _ rfl
  have cw := (fun W (g : Grew W0 W) => object_Word k W)
  have cn := (fun W g => hexa_Number (l.length : Int) W (by omega) (by omega) (hT.grew (gw0.trans' g)) : ∀ W, Grew W0 W → _)
  clear hq hT
  by_cases hw : Pure.wordO k = []
  · rw [hw] at cw
    go_enter Tryd.func7, Tryd.ntmps7
    go_wp2_with (first | (go_at_call 18; with_reducible refine (cw _ (by assumption)).mono ?_; rintro e1 W1 ⟨rfl, g1⟩; replace g1 := Grew.trans' (a := W0) (by assumption) g1))
    go_ret2
    exact ⟨gw0.trans' (by assumption), .inl ⟨hw, rfl⟩⟩
  obtain ⟨S, hS⟩ : ∃ S : ByteArray, (⟨(Pure.wordO k).toArray⟩ : ByteArray) = S := ⟨_, rfl⟩
  have hem : S.toList.isEmpty = false := by rw [← hS, ByteArray.toList_eq]; simpa using hw
  rw [hS] at cw
  have HS := Lib.hid hS
  clear hS
  by_cases hl2 : 65536 < l.length
  · clear HS
    have f5 : decide (65536 < (l.length : Int)) = true := decide_eq_true (by omega)
    go_enter Tryd.func7, Tryd.ntmps7
    go_wp2_with (first | (go_at_call 18; with_reducible refine (cw _ (by assumption)).mono ?_; rintro e1 W1 ⟨rfl, g1⟩; replace g1 := Grew.trans' (a := W0) (by assumption) g1))
    go_ret2
    exact ⟨gw0.trans' (by assumption), .inr (.inl ⟨hw, hl2, rfl⟩)⟩
  have f5 : decide (65536 < (l.length : Int)) = false := decide_eq_false (by omega)
  have kc := run_conv_bytes
  have hsz : S.size ≤ 6 := by rw [← HS.out]; show (Pure.wordO k).toArray.size ≤ 6; unfold Pure.wordO; split; decide; split; decide; split <;> decide
  obtain ⟨D, hD⟩ : ∃ D : ByteArray, (⟨(Lib.itoa (l.length : Int)).toArray⟩ : ByteArray) = D := ⟨_, rfl⟩
  have hDs : D.size ≤ 21 := by
    rw [← hD]
    have := Lib.itoa_length_le (l.length : Int) (by omega) (by omega)
    show (Lib.itoa (l.length : Int)).toArray.size ≤ 21
    simpa using this
  rw [hD] at cn
  obtain ⟨T1, h1⟩ : ∃ T : ByteArray, S ++ ⟨#[32]⟩ = T := ⟨_, rfl⟩
  obtain ⟨T2, h2⟩ : ∃ T : ByteArray, T1 ++ D = T := ⟨_, rfl⟩
  obtain ⟨T3, h3⟩ : ∃ T : ByteArray, T2 ++ ⟨#[0]⟩ = T := ⟨_, rfl⟩
  have s1 : T1.size = S.size + 1 := by rw [← h1, ByteArray.size_append]; rfl
  have s2 : T2.size = T1.size + D.size := by rw [← h2, ByteArray.size_append]
  have s3 : T3.size = T2.size + 1 := by rw [← h3, ByteArray.size_append]; rfl
  have hT3 : T3.data.toList ++ l = Pure.bytesO k l := by
    rw [← h3, ← h2, ← h1, append_list, append_list, append_list, ← HS.out, ← hD]
    rfl
  have hT1s : T1.size ≤ 7 := by omega
  have hT2s : T2.size ≤ 28 := by omega
  have hT3s : T3.size ≤ 30 := by omega
  have HT := Lib.hid hT3
  have hbw := gw0.size
  clear hD s1 s2 s3 hT3 HS
  go_enter Tryd.func7, Tryd.ntmps7
  go_wp2_with (first | (go_at_call 18; with_reducible refine (cw _ (by assumption)).mono ?_; rintro e1 W1 ⟨rfl, g1⟩; replace g1 := Grew.trans' (a := W0) (by assumption) g1) | (go_at_call 22; with_reducible refine (cn _ (by assumption)).mono ?_; rintro e1 W1 ⟨rfl, g1⟩; replace g1 := Grew.trans' (a := W0) (by assumption) g1))
  go_region_held (fun w' => Grew W0 w') (first | assumption | exact Below.drew (by assumption) | exact Grew.trans' (by assumption) (bytesWorld_grew _ _) | go_keep) (first | (go_at_call 18; with_reducible refine (cw _ (by assumption)).mono ?_; rintro e1 W1 ⟨rfl, g1⟩; replace g1 := Grew.trans' (a := W0) (by assumption) g1) | (go_at_call 22; with_reducible refine (cn _ (by assumption)).mono ?_; rintro e1 W1 ⟨rfl, g1⟩; replace g1 := Grew.trans' (a := W0) (by assumption) g1))
  all_goals
    have gW1 : Grew W0 W1 := by assumption
    have gw1 := gw0.trans' gW1
    have hown := OwnB.conv' (base := w.heap.size) (w := W1) T3 gw1.size (by omega)
    have gW2 := gW1.trans' (bytesWorld_grew W1 T3)
    generalize Lib.bytesWorld W1 5 T3 = W2 at hown gW2 ⊢
    have gw2 := gw0.trans' gW2
    have hr2 := hr.below gw2 (Nat.le_refl _)
    have hTl : T3.data.toList.length = T3.size := Array.length_toList
    have HTL := Lib.hid hTl
    clear hTl cw cn
    go_wp2_with (at_builtin; refine wpList_append_B rfl _ _ rfl w.heap.size _ T3.data.toList l p cap rfl rfl hown hr2 ?h1 ?h2 ?_)
    case h1 => exact gw2.size
    case h2 => rw [HTL.out]; omega
    intro v3 W3 hown3 hb3 hg3
    go_wp2
    go_ret2
    exact ⟨Below.trans gw2 hb3, .inr (.inr ⟨hw, by omega, v3, rfl, by rw [← HT.out]; exact hown3⟩)⟩

end Go.Proofs.YtdlhabldjdkfbaaDoor

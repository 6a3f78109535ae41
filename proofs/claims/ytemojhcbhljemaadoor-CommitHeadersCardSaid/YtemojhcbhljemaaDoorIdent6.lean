/- ident.zone: a zone as a sign and four digits. -/
import Derived.Test.YtemojhcbhljemaaDoorIdent5
namespace Go.Proofs.YtemojhcbhljemaaDoor
set_option linter.unusedVariables false
set_option linter.unusedSimpArgs false
open Go.RowKit

/-- A zone's text. -/
def zoneL (neg : Bool) (n : Nat) : List UInt8 := (if neg then [45] else [43]) ++ twoD (n / 60) ++ twoD (n % 60)

set_option maxRecDepth 100000 in
set_option maxHeartbeats 1000000 in
theorem ident_zone_pos (n : Nat) (hn : n ≤ 840) (w : World) :
    Calls Tryd.prog 32 #[.int .i64 (n : Int)] w fun e w' => e = .returned (.string ⟨(zoneL false n).toArray⟩) ∧ Grew w w' := by
  have g0 : Grew w w := Below.refl _ _
  have c1 := fun W (g : Grew w W) => ident_two (n / 60) (by omega) W
  have c2 := fun W (g : Grew w W) => ident_two (n % 60) (by omega) W
  have e1 : ((n / 60 : Nat) : Int) = (n : Int) / 60 := by omega
  have e2 : ((n % 60 : Nat) : Int) = (n : Int) % 60 := by omega
  rw [e1] at c1
  rw [e2] at c2
  obtain ⟨A, hA⟩ : ∃ A : ByteArray, (⟨(twoD (n / 60)).toArray⟩ : ByteArray) = A := ⟨_, rfl⟩
  obtain ⟨B, hB⟩ : ∃ A : ByteArray, (⟨(twoD (n % 60)).toArray⟩ : ByteArray) = A := ⟨_, rfl⟩
  have hAs : A.size = 2 := by rw [← hA]; rfl
  have hBs : B.size = 2 := by rw [← hB]; rfl
  simp only [hA] at c1
  simp only [hB] at c2
  have hT : (⟨#[43]⟩ : ByteArray) ++ A ++ B = ⟨(zoneL false n).toArray⟩ := by rw [← hA, ← hB]; rfl
  obtain ⟨T1, h1⟩ : ∃ T : ByteArray, (⟨#[43]⟩ : ByteArray) ++ A = T := ⟨_, rfl⟩
  rw [h1] at hT
  have hs1 : T1.size = 3 := by rw [← h1, ByteArray.size_append, hAs]; rfl
  have n1 : ¬ 9223372036854775807 < 1 + A.size := by omega
  have n2 : ¬ 9223372036854775807 < T1.size + B.size := by omega
  have hneg : decide ((n : Int) < 0) = false := decide_eq_false (by omega)
  clear hA hB e1 e2
  go_enter Tryd.func32, Tryd.ntmps32
  go_wp2_with (first | (go_at_call 46; with_reducible refine (c1 _ (by assumption)).mono ?_; rintro e1 W1 ⟨rfl, g1⟩; replace g1 := Grew.trans' (a := w) (by assumption) g1) | (go_at_call 46; with_reducible refine (c2 _ (by assumption)).mono ?_; rintro e1 W1 ⟨rfl, g1⟩; replace g1 := Grew.trans' (a := w) (by assumption) g1))
  go_ret
  exact ⟨by first | rfl | (rw [← hT]; rfl), by assumption⟩

set_option maxRecDepth 100000 in
set_option maxHeartbeats 1000000 in
theorem ident_zone_neg (n : Nat) (hn : n ≤ 840) (h0 : 0 < n) (w : World) :
    Calls Tryd.prog 32 #[.int .i64 (-(n : Int))] w fun e w' => e = .returned (.string ⟨(zoneL true n).toArray⟩) ∧ Grew w w' := by
  have g0 : Grew w w := Below.refl _ _
  have c1 := fun W (g : Grew w W) => ident_two (n / 60) (by omega) W
  have c2 := fun W (g : Grew w W) => ident_two (n % 60) (by omega) W
  have e1 : ((n / 60 : Nat) : Int) = (n : Int) / 60 := by omega
  have e2 : ((n % 60 : Nat) : Int) = (n : Int) % 60 := by omega
  rw [e1] at c1
  rw [e2] at c2
  obtain ⟨A, hA⟩ : ∃ A : ByteArray, (⟨(twoD (n / 60)).toArray⟩ : ByteArray) = A := ⟨_, rfl⟩
  obtain ⟨B, hB⟩ : ∃ A : ByteArray, (⟨(twoD (n % 60)).toArray⟩ : ByteArray) = A := ⟨_, rfl⟩
  have hAs : A.size = 2 := by rw [← hA]; rfl
  have hBs : B.size = 2 := by rw [← hB]; rfl
  simp only [hA] at c1
  simp only [hB] at c2
  have hT : (⟨#[45]⟩ : ByteArray) ++ A ++ B = ⟨(zoneL true n).toArray⟩ := by rw [← hA, ← hB]; rfl
  obtain ⟨T1, h1⟩ : ∃ T : ByteArray, (⟨#[45]⟩ : ByteArray) ++ A = T := ⟨_, rfl⟩
  rw [h1] at hT
  have hs1 : T1.size = 3 := by rw [← h1, ByteArray.size_append, hAs]; rfl
  have n1 : ¬ 9223372036854775807 < 1 + A.size := by omega
  have n2 : ¬ 9223372036854775807 < T1.size + B.size := by omega
  have hneg : decide (-(n : Int) < 0) = true := decide_eq_true (by omega)
  have hneg2 : - -(n : Int) = (n : Int) := by omega
  have hneg3 : IntKind.i64.wrap (n : Int) = (n : Int) := IntWalk.i64_in _ (by omega)
  clear hA hB e1 e2
  go_enter Tryd.func32, Tryd.ntmps32
  go_wp2_with (first | (go_at_call 46; with_reducible refine (c1 _ (by assumption)).mono ?_; rintro e1 W1 ⟨rfl, g1⟩; replace g1 := Grew.trans' (a := w) (by assumption) g1) | (go_at_call 46; with_reducible refine (c2 _ (by assumption)).mono ?_; rintro e1 W1 ⟨rfl, g1⟩; replace g1 := Grew.trans' (a := w) (by assumption) g1))
  go_ret
  exact ⟨by first | rfl | (rw [← hT]; rfl), by assumption⟩

end Go.Proofs.YtemojhcbhljemaaDoor

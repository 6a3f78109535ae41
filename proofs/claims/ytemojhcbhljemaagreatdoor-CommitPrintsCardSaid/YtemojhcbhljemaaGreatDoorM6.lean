/- Several texts in one: Ident5, Ident6. -/
import Derived.Test.YtemojhcbhljemaaGreatDoorIdent4

/- ident.two and the reference's two: a number below a hundred as two digits. -/
namespace Go.Proofs.YtemojhcbhljemaaGreatDoor
set_option linter.unusedVariables false
set_option linter.unusedSimpArgs false
open Go.RowKit

/-- A number's two digits. -/
def twoD (n : Nat) : List UInt8 := [UInt8.ofNat (48 + n / 10), UInt8.ofNat (48 + n % 10)]
theorem rd_two (w : World) (a b : UInt8) : Rd (w.alloc (.cells #[.int .u8 (a.toNat : Int), .int .u8 (b.toNat : Int)] 5)) (some ⟨w.heap.size, 0, none⟩) [a, b] := by
  refine .inr ⟨w.heap.size, 0, rfl, by simp, fun i hi => ?_⟩
  have : i = 0 ∨ i = 1 := by simp at hi; omega
  rcases this with rfl | rfl
  · rw [cell_of_row _ _ _ _ _ (0, 0) (heap_alloc_new w _)]; rfl
  · rw [cell_of_row _ _ _ _ _ (0, 0) (heap_alloc_new w _)]; rfl

set_option maxRecDepth 100000 in
set_option maxHeartbeats 1000000 in
theorem ident_two (n : Nat) (hn : n < 100) (w : World) :
    Calls Tryz.prog 64 #[.int .i64 (n : Int)] w fun e w' => e = .returned (.string ⟨(twoD n).toArray⟩) ∧ Grew w w' := by
  have ha : (UInt8.ofNat (48 + n / 10)).toNat = 48 + n / 10 := by simp; omega
  have hb : (UInt8.ofNat (48 + n % 10)).toNat = 48 + n % 10 := by simp; omega
  unfold twoD
  generalize UInt8.ofNat (48 + n / 10) = a at *
  generalize UInt8.ofNat (48 + n % 10) = b at *
  have ea : 48 + (n : Int) / 10 % 10 = (a.toNat : Int) := by omega
  have eb : 48 + (n : Int) % 10 = (b.toNat : Int) := by omega
  have wa : IntKind.u8.wrap (a.toNat : Int) = (a.toNat : Int) := by have := a.toNat_lt; simp [IntKind.wrap, IntKind.bits, IntKind.signed]; omega
  have wb : IntKind.u8.wrap (b.toNat : Int) = (b.toNat : Int) := by have := b.toNat_lt; simp [IntKind.wrap, IntKind.bits, IntKind.signed]; omega
  obtain ⟨V, hV⟩ : ∃ V, w.alloc (.cells #[.int .u8 (a.toNat : Int), .int .u8 (b.toNat : Int)] 5) = V := ⟨_, rfl⟩
  have hr := rd_two w a b
  rw [hV] at hr
  have gV : Grew w V := by rw [← hV]; exact (Below.refl _ _).alloc (Nat.le_refl _) _
  have kc := conv_string 2 hr
  have hl2 : [a, b].length = 2 := rfl
  rw [hl2] at kc
  clear hr ha hb hl2
  go_enter Tryz.func64, Tryz.ntmps64
  go_wp2
  go_ret
  exact ⟨rfl, gV⟩

set_option maxRecDepth 100000 in
set_option maxHeartbeats 1000000 in
theorem ref_two (n : Nat) (hn : n < 100) (w : World) :
    Calls Tryz.prog 45 #[.int .i64 (n : Int)] w fun e w' => e = .returned (.string ⟨(twoD n).toArray⟩) ∧ Grew w w' := by
  have ha : (UInt8.ofNat (48 + n / 10)).toNat = 48 + n / 10 := by simp; omega
  have hb : (UInt8.ofNat (48 + n % 10)).toNat = 48 + n % 10 := by simp; omega
  unfold twoD
  generalize UInt8.ofNat (48 + n / 10) = a at *
  generalize UInt8.ofNat (48 + n % 10) = b at *
  have ea : 48 + (n : Int) / 10 = (a.toNat : Int) := by omega
  have eb : 48 + (n : Int) % 10 = (b.toNat : Int) := by omega
  have wa : IntKind.u8.wrap (a.toNat : Int) = (a.toNat : Int) := by have := a.toNat_lt; simp [IntKind.wrap, IntKind.bits, IntKind.signed]; omega
  have wb : IntKind.u8.wrap (b.toNat : Int) = (b.toNat : Int) := by have := b.toNat_lt; simp [IntKind.wrap, IntKind.bits, IntKind.signed]; omega
  obtain ⟨V, hV⟩ : ∃ V, w.alloc (.cells #[.int .u8 (a.toNat : Int), .int .u8 (b.toNat : Int)] 5) = V := ⟨_, rfl⟩
  have hr := rd_two w a b
  rw [hV] at hr
  have gV : Grew w V := by rw [← hV]; exact (Below.refl _ _).alloc (Nat.le_refl _) _
  have kc := conv_string 2 hr
  have hl2 : [a, b].length = 2 := rfl
  rw [hl2] at kc
  clear hr ha hb hl2
  go_enter Tryz.func45, Tryz.ntmps45
  go_wp2
  go_ret
  exact ⟨rfl, gV⟩

end Go.Proofs.YtemojhcbhljemaaGreatDoor

/- ident.zone: a zone as a sign and four digits. -/
namespace Go.Proofs.YtemojhcbhljemaaGreatDoor
set_option linter.unusedVariables false
set_option linter.unusedSimpArgs false
open Go.RowKit

/-- A zone's text. -/
def zoneL (neg : Bool) (n : Nat) : List UInt8 := (if neg then [45] else [43]) ++ twoD (n / 60) ++ twoD (n % 60)

set_option maxRecDepth 100000 in
set_option maxHeartbeats 1000000 in
theorem ident_zone_pos (n : Nat) (hn : n ≤ 840) (w : World) :
    Calls Tryz.prog 43 #[.int .i64 (n : Int)] w fun e w' => e = .returned (.string ⟨(zoneL false n).toArray⟩) ∧ Grew w w' := by
  have g0 : Grew w w := Below.refl _ _
  have c1 := fun W (g : Grew w W) => ident_two (n / 60) (by omega) W
  have c2 := fun W (g : Grew w W) => ident_two (n % 60) (by omega) W
  have e1 : ((n / 60 : Nat) : Int) = (n : Int) / 60 := by omega
  have e2 : ((n % 60 : Nat) : Int) = (n : Int) % 60 := by omega
  rw [e1] at c1
  rw [e2] at c2
  obtain ⟨A, hA⟩ : ∃ A : ByteArray, (⟨(twoD (n / 60)).toArray⟩ : ByteArray) = A := ⟨_, rfl⟩
  obtain ⟨B, hB⟩ : ∃ A : ByteArray, (⟨(twoD (n % 60)).toArray⟩ : ByteArray) = A := ⟨_, rfl⟩
  have hAs : A.size = 2 := by rw [← hA]; rfl
  have hBs : B.size = 2 := by rw [← hB]; rfl
  simp only [hA] at c1
  simp only [hB] at c2
  have hT : (⟨#[43]⟩ : ByteArray) ++ A ++ B = ⟨(zoneL false n).toArray⟩ := by rw [← hA, ← hB]; rfl
  obtain ⟨T1, h1⟩ : ∃ T : ByteArray, (⟨#[43]⟩ : ByteArray) ++ A = T := ⟨_, rfl⟩
  rw [h1] at hT
  have hs1 : T1.size = 3 := by rw [← h1, ByteArray.size_append, hAs]; rfl
  have n1 : ¬ 9223372036854775807 < 1 + A.size := by omega
  have n2 : ¬ 9223372036854775807 < T1.size + B.size := by omega
  have hneg : decide ((n : Int) < 0) = false := decide_eq_false (by omega)
  clear hA hB e1 e2
  go_enter Tryz.func43, Tryz.ntmps43
  go_wp2_with (first | (go_at_call 64; with_reducible refine (c1 _ (by assumption)).mono ?_; rintro e1 W1 ⟨rfl, g1⟩; replace g1 := Grew.trans' (a := w) (by assumption) g1) | (go_at_call 64; with_reducible refine (c2 _ (by assumption)).mono ?_; rintro e1 W1 ⟨rfl, g1⟩; replace g1 := Grew.trans' (a := w) (by assumption) g1))
  go_ret
  exact ⟨by first | rfl | (rw [← hT]; rfl), by assumption⟩

set_option maxRecDepth 100000 in
set_option maxHeartbeats 1000000 in
theorem ident_zone_neg (n : Nat) (hn : n ≤ 840) (h0 : 0 < n) (w : World) :
    Calls Tryz.prog 43 #[.int .i64 (-(n : Int))] w fun e w' => e = .returned (.string ⟨(zoneL true n).toArray⟩) ∧ Grew w w' := by
  have g0 : Grew w w := Below.refl _ _
  have c1 := fun W (g : Grew w W) => ident_two (n / 60) (by omega) W
  have c2 := fun W (g : Grew w W) => ident_two (n % 60) (by omega) W
  have e1 : ((n / 60 : Nat) : Int) = (n : Int) / 60 := by omega
  have e2 : ((n % 60 : Nat) : Int) = (n : Int) % 60 := by omega
  rw [e1] at c1
  rw [e2] at c2
  obtain ⟨A, hA⟩ : ∃ A : ByteArray, (⟨(twoD (n / 60)).toArray⟩ : ByteArray) = A := ⟨_, rfl⟩
  obtain ⟨B, hB⟩ : ∃ A : ByteArray, (⟨(twoD (n % 60)).toArray⟩ : ByteArray) = A := ⟨_, rfl⟩
  have hAs : A.size = 2 := by rw [← hA]; rfl
  have hBs : B.size = 2 := by rw [← hB]; rfl
  simp only [hA] at c1
  simp only [hB] at c2
  have hT : (⟨#[45]⟩ : ByteArray) ++ A ++ B = ⟨(zoneL true n).toArray⟩ := by rw [← hA, ← hB]; rfl
  obtain ⟨T1, h1⟩ : ∃ T : ByteArray, (⟨#[45]⟩ : ByteArray) ++ A = T := ⟨_, rfl⟩
  rw [h1] at hT
  have hs1 : T1.size = 3 := by rw [← h1, ByteArray.size_append, hAs]; rfl
  have n1 : ¬ 9223372036854775807 < 1 + A.size := by omega
  have n2 : ¬ 9223372036854775807 < T1.size + B.size := by omega
  have hneg : decide (-(n : Int) < 0) = true := decide_eq_true (by omega)
  have hneg2 : - -(n : Int) = (n : Int) := by omega
  have hneg3 : IntKind.i64.wrap (n : Int) = (n : Int) := IntWalk.i64_in _ (by omega)
  clear hA hB e1 e2
  go_enter Tryz.func43, Tryz.ntmps43
  go_wp2_with (first | (go_at_call 64; with_reducible refine (c1 _ (by assumption)).mono ?_; rintro e1 W1 ⟨rfl, g1⟩; replace g1 := Grew.trans' (a := w) (by assumption) g1) | (go_at_call 64; with_reducible refine (c2 _ (by assumption)).mono ?_; rintro e1 W1 ⟨rfl, g1⟩; replace g1 := Grew.trans' (a := w) (by assumption) g1))
  go_ret
  exact ⟨by first | rfl | (rw [← hT]; rfl), by assumption⟩

end Go.Proofs.YtemojhcbhljemaaGreatDoor

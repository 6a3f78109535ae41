/- ident.bad, called, zoned, Right: which idents may be. Conditions: the decoder's tables are laid; names of at most 2^40 bytes. -/
import Derived.Test.YtemojhcbhljemaaGreatDoorTabs
import Derived.Test.YtemojhcbhljemaaGreatDoorRunes
namespace Go.Proofs.YtemojhcbhljemaaGreatDoor
set_option linter.unusedVariables false
set_option linter.unusedSimpArgs false
open Go.RowKit

/-- A byte that may not stand in a name. -/
def badI (c : UInt8) : Bool := c.toNat == 0 || c.toNat == 10 || c.toNat == 60 || c.toNat == 62
/-- Who may be called so. -/
def calledP (l : List UInt8) : Bool := decide (l.length ≤ 200) && Lib.validD l && !(l.any badI) && !(Lib.hasPrefix l [32]) && !(Lib.hasSuffix l [32])
/-- Who, and when. -/
structure Idn where
  name : ByteArray
  email : ByteArray
  when : Int
  zone : Int
def Idn.cells (i : Idn) : List Value := [.string i.name, .string i.email, .int .i64 i.when, .int .i64 i.zone]
def zonedP (z : Int) : Bool := decide (-840 ≤ z) && decide (z ≤ 840)
/-- Which idents may be. -/
def rightN (i : Idn) : Bool := calledP i.name.data.toList && calledP i.email.data.toList && decide (0 ≤ i.when) && decide (i.when ≤ 1099511627775) && zonedP i.zone

set_option maxRecDepth 100000 in
theorem ident_bad (x : Nat) (w : World) :
    Calls Tryz.prog 75 #[.int .i32 (x : Int)] w fun e w' => e = .returned (.bool (x == 0 || x == 10 || x == 60 || x == 62)) ∧ Grew w w' := by
  have e0 : ((x : Int) == 0) = (x == 0) := by rw [Bool.eq_iff_iff]; simp
  have e1 : ((x : Int) == 10) = (x == 10) := by rw [Bool.eq_iff_iff]; simp; omega
  have e2 : ((x : Int) == 60) = (x == 60) := by rw [Bool.eq_iff_iff]; simp; omega
  have e3 : ((x : Int) == 62) = (x == 62) := by rw [Bool.eq_iff_iff]; simp; omega
  cases h0 : (x == 0) <;> cases h1 : (x == 10) <;> cases h2 : (x == 60) <;> cases h3 : (x == 62)
  all_goals
    rw [h0] at e0
    rw [h1] at e1
    rw [h2] at e2
    rw [h3] at e3
    go_enter Tryz.func75, Tryz.ntmps75
    go_wp2
    go_ret
    exact ⟨rfl, Below.refl _ _⟩
theorem any_badI (s : ByteArray) (w : World) :
    Calls Tryz.prog 74 #[.string s, .func (.func 75) #[] #[]] w fun e w' => e = .returned (.bool (s.data.toList.any badI)) ∧ Grew w w' := by
  refine (Tryz.strings_ContainsFunc_grows 75 #[] (enters_of Tryz.func75 (by kernel_rfl) rfl) (fun x => x == 0 || x == 10 || x == 60 || x == 62) s w (fun W x _ _ => ident_bad x W)).mono ?_
  rintro e w' ⟨rfl, g⟩
  refine ⟨?_, g⟩
  rw [any_runes _ badI false (fun c _ => rfl) (fun r hr => by simp; omega) (fun c hc => by unfold badI; simp; omega)]

set_option maxRecDepth 100000 in
set_option maxHeartbeats 1000000 in
theorem ident_calledW (s : ByteArray) (w : World) (hs : s.size ≤ 9223372036854775807) (hu : U8Ok w) :
    Calls Tryz.prog 54 #[.string s] w fun e w' => e = .returned (.bool (calledP s.data.toList)) ∧ Grew w w' := by
  have g0 : Grew w w := Below.refl _ _
  have hsl : s.data.toList.length = s.size := Array.length_toList
  have cV := fun W (g : Grew w W) => Tryz.utf8_ValidString s W (by omega) (u8_grew hu g)
  have cC := fun W (g : Grew w W) => any_badI s W
  have c1 := fun W => Tryz.strings_HasPrefix s ⟨#[32]⟩ W
  have c2 := fun W => Tryz.strings_HasSuffix s ⟨#[32]⟩ W (by omega)
  unfold calledP
  rw [hsl]
  generalize Lib.validD s.data.toList = V at *
  generalize s.data.toList.any badI = B at *
  obtain ⟨A, hA⟩ : ∃ A, Lib.hasPrefix s.data.toList [32] = A := ⟨_, rfl⟩
  obtain ⟨D, hD⟩ : ∃ D, Lib.hasSuffix s.data.toList [32] = D := ⟨_, rfl⟩
  simp only [hA] at c1
  simp only [hD] at c2
  rw [hA, hD]
  clear hA hD hsl hu
  by_cases hl : s.size ≤ 200
  · have f1 : decide ((s.size : Int) ≤ 200) = true := decide_eq_true (by omega)
    have f2 : decide (s.size ≤ 200) = true := decide_eq_true hl
    rw [f2]
    cases V <;> cases B <;> cases A <;> cases D
    all_goals
      go_enter Tryz.func54, Tryz.ntmps54
      go_wp2_with (first | (go_at_call 73; with_reducible refine (cV _ (by assumption)).mono ?_; rintro e1 W1 ⟨rfl, g1⟩; replace g1 := Grew.trans' (a := w) (by assumption) g1) | (go_at_call 74; with_reducible refine (cC _ (by assumption)).mono ?_; rintro e1 W1 ⟨rfl, g1⟩; replace g1 := Grew.trans' (a := w) (by assumption) g1) | (go_at_call 76; with_reducible refine (c1 _).mono ?_; rintro e1 W1 ⟨rfl, h1⟩; subst W1) | (go_at_call 77; with_reducible refine (c2 _).mono ?_; rintro e1 W1 ⟨rfl, h1⟩; subst W1))
      go_ret
      exact ⟨rfl, by assumption⟩
  · have f1 : decide ((s.size : Int) ≤ 200) = false := decide_eq_false (by omega)
    have f2 : decide (s.size ≤ 200) = false := decide_eq_false hl
    rw [f2]
    go_enter Tryz.func54, Tryz.ntmps54
    go_wp2
    go_ret
    exact ⟨by simp, g0⟩
theorem ident_called (s : ByteArray) (w : World) (hs : s.size ≤ 1099511627776) (hu : U8Ok w) :
    Calls Tryz.prog 54 #[.string s] w fun e w' => e = .returned (.bool (calledP s.data.toList)) ∧ Grew w w' := ident_calledW s w (by omega) hu

end Go.Proofs.YtemojhcbhljemaaGreatDoor

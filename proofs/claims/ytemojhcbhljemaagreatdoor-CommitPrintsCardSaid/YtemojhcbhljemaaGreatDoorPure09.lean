/- Records with a given number of parents: which may be. No function of the program. -/
import Derived.Test.YtemojhcbhljemaaGreatDoorCom3
import Derived.Test.YtemojhcbhljemaaGreatDoorM1
namespace Go.Proofs.YtemojhcbhljemaaGreatDoor
set_option linter.unusedVariables false
set_option linter.unusedSimpArgs false
open Go.RowKit

def byId (i : Nat) : List UInt8 := UInt8.ofNat i :: List.replicate 19 0
def idsN (n : Nat) : List (List UInt8) := (List.range n).map fun i => byId (i + 1)
def whoA : Idn := ⟨⟨#[65]⟩, ⟨#[97]⟩, 0, 0⟩
def recN (l : List (List UInt8)) (t : ByteArray) : Rec := ⟨byId 1, l, whoA, whoA, t⟩
def plZ (l : List (List UInt8)) (z : Bool) (n : Nat) : List (List UInt8) := if z && decide (0 < n) then l.set (n - 1) zeros20 else l
def plT (l : List (List UInt8)) (t : Bool) (n : Nat) : List (List UInt8) := if t && decide (1 < n) then l.set 0 (l.getD 1 []) else l
def plN (n : Nat) (z t : Bool) : List (List UInt8) := plT (plZ (idsN n) z n) t n
theorem who_right : rightN whoA = true := by decide +kernel
theorem par_want : ∀ n, n < 19 → ∀ z t : Bool, (parOk [] (plN n z t) && decide ((plN n z t).length ≤ 16)) = (decide (n ≤ 16) && !(z && decide (0 < n)) && !(t && decide (1 < n))) := by decide +kernel
theorem want_right (n : Nat) (hn : n < 19) (z t : Bool) : rightR (recN (plN n z t) ⟨#[]⟩) = (decide (n ≤ 16) && !(z && decide (0 < n)) && !(t && decide (1 < n))) := by
  rw [← par_want n hn z t]
  unfold rightR rightRest recN
  simp only [who_right, Bool.and_true]
  have h1 : (byId 1 == zeros20) = false := by decide +kernel
  have h2 : Lib.contains (⟨#[]⟩ : ByteArray).data.toList [0] = false := by decide +kernel
  have h3 : decide ((⟨#[]⟩ : ByteArray).size ≤ 32768) = true := by decide +kernel
  rw [h1, h2, h3]
  simp
theorem awake_right : rightR (recN [] ⟨#[120]⟩) = true := by
  unfold rightR rightRest recN
  simp only [who_right, Bool.and_true]
  decide +kernel
theorem awake_bytes : 60 < (printR (recN [] ⟨#[120]⟩)).length ∧ ∃ r, printR (recN [] ⟨#[120]⟩) = 116 :: r := by
  constructor
  · unfold printR
    simp only [List.length_append]
    have h1 := hex_len (recN [] ⟨#[120]⟩).tree
    have h2 : (recN [] ⟨#[120]⟩).tree.length = 20 := rfl
    rw [h2] at h1
    have h3 : auT.length = 7 := rfl
    have h4 : coT.length = 11 := rfl
    have h5 : treeT.length = 5 := rfl
    omega
  · exact ⟨_, rfl⟩
theorem byId_len (i : Nat) : (byId i).length = 20 := rfl
theorem idsN_len (n : Nat) : (idsN n).length = n := by simp [idsN]
theorem idsN_20 (n : Nat) : ∀ x ∈ idsN n, x.length = 20 := by
  intro x hx
  unfold idsN at hx
  rw [List.mem_map] at hx
  obtain ⟨i, -, rfl⟩ := hx
  rfl
theorem idsN_next (n : Nat) : idsN (n + 1) = idsN n ++ [byId (n + 1)] := by unfold idsN; rw [List.range_succ]; simp

end Go.Proofs.YtemojhcbhljemaaGreatDoor

/- Words of 32 bits turned, and taken from bytes. Conditions: none. -/
import Derived.Test.YtdlhabldjdkfbaaDoorPureSha
import Derived.Test.YtdlhabldjdkfbaaDoorWords2
import Derived.Test.YtdlhabldjdkfbaaDoorBuf
import Derived.BigQuiet
namespace Go.Proofs.YtdlhabldjdkfbaaDoor
set_option linter.unusedVariables false
set_option linter.unusedSimpArgs false
open Go.RowKit

abbrev u32V (x : UInt32) : Value := .int .u32 (x.toNat : Int)

theorem ofInt_u32 (x : UInt32) : BitVec.ofInt 32 (x.toNat : Int) = x.toBitVec := by
  apply BitVec.eq_of_toNat_eq
  have := x.toNat_lt
  rw [BitVec.toNat_ofInt]
  show ((x.toNat : Int) % 4294967296).toNat = x.toNat
  omega
theorem wrap_u32 (x : UInt32) : IntKind.u32.wrap (x.toNat : Int) = (x.toNat : Int) := by
  have := x.toNat_lt
  simp [IntKind.wrap, IntKind.bits, IntKind.signed]
  omega
theorem w_and (x y : UInt32) : bits .and .u32 (x.toNat : Int) (y.toNat : Int) = ((x &&& y).toNat : Int) := by
  have h : bits .and .u32 (x.toNat : Int) (y.toNat : Int) = IntKind.u32.wrap ((BitVec.ofInt 32 (x.toNat : Int) &&& BitVec.ofInt 32 (y.toNat : Int)).toNat : Int) := rfl
  rw [h, ofInt_u32, ofInt_u32]
  exact wrap_u32 (x &&& y)
theorem w_or (x y : UInt32) : bits .or .u32 (x.toNat : Int) (y.toNat : Int) = ((x ||| y).toNat : Int) := by
  have h : bits .or .u32 (x.toNat : Int) (y.toNat : Int) = IntKind.u32.wrap ((BitVec.ofInt 32 (x.toNat : Int) ||| BitVec.ofInt 32 (y.toNat : Int)).toNat : Int) := rfl
  rw [h, ofInt_u32, ofInt_u32]
  exact wrap_u32 (x ||| y)
theorem w_xor (x y : UInt32) : bits .xor .u32 (x.toNat : Int) (y.toNat : Int) = ((x ^^^ y).toNat : Int) := by
  have h : bits .xor .u32 (x.toNat : Int) (y.toNat : Int) = IntKind.u32.wrap ((BitVec.ofInt 32 (x.toNat : Int) ^^^ BitVec.ofInt 32 (y.toNat : Int)).toNat : Int) := rfl
  rw [h, ofInt_u32, ofInt_u32]
  exact wrap_u32 (x ^^^ y)
/-- '^x'. -/
theorem w_not (x : UInt32) : bits .xor .u32 4294967295 (x.toNat : Int) = ((~~~x).toNat : Int) := by
  have h1 : (4294967295 : Int) = ((4294967295 : UInt32).toNat : Int) := rfl
  rw [h1, w_xor]
  have : (4294967295 : UInt32) ^^^ x = ~~~x := by
    apply UInt32.toBitVec_inj.1
    show (4294967295#32 ^^^ x.toBitVec) = ~~~x.toBitVec
    rw [show (4294967295#32) = BitVec.allOnes 32 from rfl, BitVec.allOnes_xor]
  rw [this]
theorem w_notM (x : UInt32) : bits .xor .u32 IntKind.u32.max (x.toNat : Int) = ((~~~x).toNat : Int) := w_not x
theorem w_add (x y : UInt32) : IntKind.u32.wrap ((x.toNat : Int) + (y.toNat : Int)) = ((x + y).toNat : Int) := by
  have h : ∀ z : Int, IntKind.u32.wrap z = z % 4294967296 := fun z => rfl
  rw [h, UInt32.toNat_add]
  omega
theorem w_shl (x : UInt32) (n : Nat) (hn : n < 32) (k : Int) (hk : ((2 ^ n : Nat) : Int) = k) : (x.toNat : Int) * k % 4294967296 = ((x <<< UInt32.ofNat n).toNat : Int) := by
  subst hk
  rw [UInt32.toNat_shiftLeft, Nat.shiftLeft_eq]
  have : (UInt32.ofNat n).toNat % 32 = n := by rw [UInt32.toNat_ofNat']; omega
  rw [this]
  rw [← Int.natCast_mul]
  generalize x.toNat * 2 ^ n = m
  omega
theorem w_shr (x : UInt32) (n : Nat) (hn : n < 32) (k : Int) (hk : ((2 ^ n : Nat) : Int) = k) : (x.toNat : Int) / k = ((x >>> UInt32.ofNat n).toNat : Int) := by
  subst hk
  rw [UInt32.toNat_shiftRight, Nat.shiftRight_eq_div_pow]
  have : (UInt32.ofNat n).toNat % 32 = n := by rw [UInt32.toNat_ofNat']; omega
  rw [this]
  exact (Int.natCast_ediv _ _).symm

theorem rot1 (x : UInt32) : bits .or .u32 ((x.toNat : Int) * 2 % 4294967296) ((x.toNat : Int) / 2147483648) = ((Pure.rotl x (UInt32.ofNat 1)).toNat : Int) := by
  rw [w_shl x 1 (by decide) 2 rfl, w_shr x 31 (by decide) 2147483648 rfl, w_or]; rfl
theorem rot5 (x : UInt32) : bits .or .u32 ((x.toNat : Int) * 32 % 4294967296) ((x.toNat : Int) / 134217728) = ((Pure.rotl x (UInt32.ofNat 5)).toNat : Int) := by
  rw [w_shl x 5 (by decide) 32 rfl, w_shr x 27 (by decide) 134217728 rfl, w_or]; rfl
theorem rot30 (x : UInt32) : bits .or .u32 ((x.toNat : Int) * 1073741824 % 4294967296) ((x.toNat : Int) / 4) = ((Pure.rotl x (UInt32.ofNat 30)).toNat : Int) := by
  rw [w_shl x 30 (by decide) 1073741824 rfl, w_shr x 2 (by decide) 4 rfl, w_or]; rfl

set_option maxRecDepth 100000 in
theorem bits_left (x : UInt32) (n : Nat) (h0 : n = 1 ∨ n = 5 ∨ n = 30) (w : World) :
    Calls Tryd.prog 44 #[u32V x, .int .i64 (n : Int)] w fun e w' => e = .returned (u32V (Pure.rotl x (UInt32.ofNat n))) ∧ w = w' := by
  have b1 : bits .and .u64 1 31 = 1 := by decide +kernel
  have b5 : bits .and .u64 5 31 = 5 := by decide +kernel
  have b30 : bits .and .u64 30 31 = 30 := by decide +kernel
  rcases h0 with rfl | rfl | rfl
  all_goals
    go_enter Tryd.func44, Tryd.ntmps44
    go_wp2
    go_ret
  · exact ⟨congrArg (fun z => Ending.returned (.int .u32 z)) (rot1 x), rfl⟩
  · exact ⟨congrArg (fun z => Ending.returned (.int .u32 z)) (rot5 x), rfl⟩
  · exact ⟨congrArg (fun z => Ending.returned (.int .u32 z)) (rot30 x), rfl⟩

set_option maxRecDepth 100000 in
theorem ref_left (x : UInt32) (n : Nat) (h0 : n = 1 ∨ n = 5 ∨ n = 30) (w : World) :
    Calls Tryd.prog 33 #[u32V x, .int .i64 (n : Int)] w fun e w' => e = .returned (u32V (Pure.rotl x (UInt32.ofNat n))) ∧ w = w' := by
  rcases h0 with rfl | rfl | rfl
  all_goals
    go_enter Tryd.func33, Tryd.ntmps33
    go_wp2
    go_ret
  · exact ⟨congrArg (fun z => Ending.returned (.int .u32 z)) (rot1 x), rfl⟩
  · exact ⟨congrArg (fun z => Ending.returned (.int .u32 z)) (rot5 x), rfl⟩
  · exact ⟨congrArg (fun z => Ending.returned (.int .u32 z)) (rot30 x), rfl⟩

end Go.Proofs.YtdlhabldjdkfbaaDoor

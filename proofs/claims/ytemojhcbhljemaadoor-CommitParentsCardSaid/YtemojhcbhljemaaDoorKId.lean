/- Slices of ids. No function of the program. -/
import Derived.Test.YtemojhcbhljemaaDoorGen
import Derived.Test.YtemojhcbhljemaaDoorIds
namespace Go.Proofs.YtemojhcbhljemaaDoor
set_option linter.unusedVariables false
set_option linter.unusedSimpArgs false
open Go.RowKit

def kId : Kd (List UInt8) where
  cells := Lib.byteCells
  n := 20
  ok := fun l => l.length = 20
  E := 26
  T := 27
  zero := .agg #[.int .u8 0, .int .u8 0, .int .u8 0, .int .u8 0, .int .u8 0, .int .u8 0, .int .u8 0, .int .u8 0, .int .u8 0, .int .u8 0, .int .u8 0, .int .u8 0, .int .u8 0, .int .u8 0, .int .u8 0, .int .u8 0, .int .u8 0, .int .u8 0, .int .u8 0, .int .u8 0]
  bytes := 20
  hlen := fun x h => by rw [Lib.byteCells_length]; exact h
  hone := fun x => one_bytes' x
  hn := by decide
  hn2 := by decide
  hb := by decide
  und := Tryd.underlying27
  info := by kernel_rfl
  hz := rfl
def kIdEq : KdEq kId where
  eqv := fun a b => a == b
  iff := fun a b => beq_iff_eq
  eql := fun a b ha hb w => eql_id a b ha hb w
  neq := fun a b ha hb w => neq_id a b ha hb w
  guard := fun op x y a b w => guard_id op x y a b w

end Go.Proofs.YtemojhcbhljemaaDoor

/- An id held against the one of zeros. No function of the program. -/
import Derived.Test.YtemojhcbhljemaaDoorIds
namespace Go.Proofs.YtemojhcbhljemaaDoor
set_option linter.unusedVariables false
set_option linter.unusedSimpArgs false
open Go.RowKit

theorem eql_idz' (a : List UInt8) (ha : a.length = 20) (w : World) :
    (binOp .eql 26 (.agg (Lib.byteCells a).toArray) (.agg #[.int .u8 0, .int .u8 0, .int .u8 0, .int .u8 0, .int .u8 0, .int .u8 0, .int .u8 0, .int .u8 0, .int .u8 0, .int .u8 0, .int .u8 0, .int .u8 0, .int .u8 0, .int .u8 0, .int .u8 0, .int .u8 0, .int .u8 0, .int .u8 0, .int .u8 0, .int .u8 0])).run Tryd.prog w = .ok (.bool (a == zeros20)) w := eql_id a zeros20 ha rfl w
theorem neq_idz' (a : List UInt8) (ha : a.length = 20) (w : World) :
    (binOp .neq 26 (.agg (Lib.byteCells a).toArray) (.agg #[.int .u8 0, .int .u8 0, .int .u8 0, .int .u8 0, .int .u8 0, .int .u8 0, .int .u8 0, .int .u8 0, .int .u8 0, .int .u8 0, .int .u8 0, .int .u8 0, .int .u8 0, .int .u8 0, .int .u8 0, .int .u8 0, .int .u8 0, .int .u8 0, .int .u8 0, .int .u8 0])).run Tryd.prog w = .ok (.bool (!(a == zeros20))) w := neq_id a zeros20 ha rfl w
theorem guard_idz' (op : BinOp) (x y : Operand) (a : List UInt8) (w : World) :
    (eqGuard op 26 x y (.agg (Lib.byteCells a).toArray) (.agg #[.int .u8 0, .int .u8 0, .int .u8 0, .int .u8 0, .int .u8 0, .int .u8 0, .int .u8 0, .int .u8 0, .int .u8 0, .int .u8 0, .int .u8 0, .int .u8 0, .int .u8 0, .int .u8 0, .int .u8 0, .int .u8 0, .int .u8 0, .int .u8 0, .int .u8 0, .int .u8 0])).run Tryd.prog w = .ok () w := guard_id op x y a zeros20 w
theorem run_zeroId (w : World) : (Instr.build 26 #[]).run Tryd.prog w = .ok (.agg (Lib.byteCells zeros20).toArray) w := run_build w _ _ _ (by kernel_rfl)

end Go.Proofs.YtemojhcbhljemaaDoor

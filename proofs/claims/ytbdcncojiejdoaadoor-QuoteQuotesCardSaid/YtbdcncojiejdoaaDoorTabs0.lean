/- A cell that stands, stands behind what only makes new blocks. No function of the program. -/
import Derived.Test.YtbdcncojiejdoaaDoorWords2
namespace Go.Proofs.YtbdcncojiejdoaaDoor
set_option linter.unusedVariables false
set_option linter.unusedSimpArgs false
open Go.RowKit

theorem cell_lt {w : World} {p : Addr} {v : Value} (h : w.cell? p = some v) : p.block < w.heap.size := World.block_lt_of_cell? _ _ h
theorem cell_grew {w w' : World} {p : Addr} {v : Value} (h : w.cell? p = some v) (hb : Grew w w') : w'.cell? p = some v := (hb.cell (cell_lt h)).trans h

end Go.Proofs.YtbdcncojiejdoaaDoor

/- The facts on which the variables strconv.ErrSyntax, strconv.ErrRange are read off a row's list. No function of the program. -/
import Derived.Test.YtibgjadnamgneaaDoorRowWords
import Derived.Test.YtibgjadnamgneaaDoorNum2
import Derived.Stop.LaidErr
namespace Go.Proofs.YtibgjadnamgneaaDoor
set_option linter.unusedVariables false
set_option linter.unusedSimpArgs false
open Go.Shelf Go.RowKit

theorem gSyntaxErr : Tryd.prog.globalNamed "strconv.ErrSyntax" = some 4 := by kernel_rfl
theorem gSyntaxErrType : (Tryd.prog.globals[4]?).map (·.type) = some 50 := by kernel_rfl
theorem gRangeErr : Tryd.prog.globalNamed "strconv.ErrRange" = some 5 := by kernel_rfl
theorem gRangeErrType : (Tryd.prog.globals[5]?).map (·.type) = some 50 := by kernel_rfl
theorem cellsErrS : Tryd.prog.cellsOf 117 = 1 := by kernel_rfl
theorem cellsString : Tryd.prog.cellsOf 9 = 1 := by kernel_rfl
theorem starErr : "*" ++ "errors.errorString" = "*errors.errorString" := by decide
theorem rowErr (u : TypeId) (h : Tryd.prog.typeName? 3 u = some "*errors.errorString") : u = 115 :=
  typeName_ptr_named (nm := "errors.errorString") (by rw [starErr]; kernel_rfl) (by kernel_rfl) (by decide) u (by rw [starErr]; exact h)

theorem errSyntax_laid {W : World} {bs : List UInt8} (h : laidMet Tryd.prog [("strconv.ErrSyntax", .iface "*errors.errorString" (.ptr (.agg [.lit (.string bs)])))] W) : IfaceAt 4 W := by
  obtain ⟨a0, s0, hv0, -, -, -⟩ := laid_sentinel h gSyntaxErr gSyntaxErrType Tryd.underlying50 rowErr Tryd.underlying115 Tryd.underlying117 rfl rfl Tryd.underlying9 cellsErrS cellsString
  exact ⟨_, by have h0 := World.var?_cell gSyntaxErr hv0 0; simpa using h0, .inr ⟨_, _, rfl⟩⟩
theorem errRange_laid {W : World} {bs : List UInt8} (h : laidMet Tryd.prog [("strconv.ErrRange", .iface "*errors.errorString" (.ptr (.agg [.lit (.string bs)])))] W) : IfaceAt 5 W := by
  obtain ⟨a0, s0, hv0, -, -, -⟩ := laid_sentinel h gRangeErr gRangeErrType Tryd.underlying50 rowErr Tryd.underlying115 Tryd.underlying117 rfl rfl Tryd.underlying9 cellsErrS cellsString
  exact ⟨_, by have h0 := World.var?_cell gRangeErr hv0 0; simpa using h0, .inr ⟨_, _, rfl⟩⟩

end Go.Proofs.YtibgjadnamgneaaDoor

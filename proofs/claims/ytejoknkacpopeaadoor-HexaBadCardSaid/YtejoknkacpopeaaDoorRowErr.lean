/- The facts on which the variables strconv.ErrSyntax, strconv.ErrRange are read off a row's list. No function of the program. -/
import Derived.Test.YtejoknkacpopeaaDoorRowWords
import Derived.Test.YtejoknkacpopeaaDoorNum2
import Derived.Stop.LaidErr
namespace Go.Proofs.YtejoknkacpopeaaDoor
set_option linter.unusedVariables false
set_option linter.unusedSimpArgs false
open Go.Shelf Go.RowKit

theorem gSyntaxErr : Tryd.prog.globalNamed "strconv.ErrSyntax" = some 1 := by kernel_rfl
theorem gSyntaxErrType : (Tryd.prog.globals[1]?).map (·.type) = some 52 := by kernel_rfl
theorem gRangeErr : Tryd.prog.globalNamed "strconv.ErrRange" = some 2 := by kernel_rfl
theorem gRangeErrType : (Tryd.prog.globals[2]?).map (·.type) = some 52 := by kernel_rfl
theorem cellsErrS : Tryd.prog.cellsOf 93 = 1 := by kernel_rfl
theorem cellsString : Tryd.prog.cellsOf 9 = 1 := by kernel_rfl
theorem starErr : "*" ++ "errors.errorString" = "*errors.errorString" := by decide
theorem rowErr (u : TypeId) (h : Tryd.prog.typeName? 3 u = some "*errors.errorString") : u = 91 :=
  typeName_ptr_named (nm := "errors.errorString") (by rw [starErr]; kernel_rfl) (by kernel_rfl) (by decide) u (by rw [starErr]; exact h)

theorem errSyntax_laid {W : World} {bs : List UInt8} (h : laidMet Tryd.prog [("strconv.ErrSyntax", .iface "*errors.errorString" (.ptr (.agg [.lit (.string bs)])))] W) : IfaceAt 1 W := by
  obtain ⟨a0, s0, hv0, -, -, -⟩ := laid_sentinel h gSyntaxErr gSyntaxErrType Tryd.underlying52 rowErr Tryd.underlying91 Tryd.underlying93 rfl rfl Tryd.underlying9 cellsErrS cellsString
  exact ⟨_, by have h0 := World.var?_cell gSyntaxErr hv0 0; simpa using h0, .inr ⟨_, _, rfl⟩⟩
theorem errRange_laid {W : World} {bs : List UInt8} (h : laidMet Tryd.prog [("strconv.ErrRange", .iface "*errors.errorString" (.ptr (.agg [.lit (.string bs)])))] W) : IfaceAt 2 W := by
  obtain ⟨a0, s0, hv0, -, -, -⟩ := laid_sentinel h gRangeErr gRangeErrType Tryd.underlying52 rowErr Tryd.underlying91 Tryd.underlying93 rfl rfl Tryd.underlying9 cellsErrS cellsString
  exact ⟨_, by have h0 := World.var?_cell gRangeErr hv0 0; simpa using h0, .inr ⟨_, _, rfl⟩⟩

end Go.Proofs.YtejoknkacpopeaaDoor

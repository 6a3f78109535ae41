/- slices.Grow of bytes, of the nil slice: laid at this translation (the library's theorem, applied). -/
import Derived.Test.YtdlhabldjdkfbaaDoorBuf
import Derived.Shelf.Spec.SlicesGrow
namespace Go.Proofs.YtdlhabldjdkfbaaDoor
set_option linter.unusedVariables false
set_option linter.unusedSimpArgs false
open Go.RowKit

def renGrow : Go.Shelf.Ren := ⟨fun | 4 => 42 | n => n, fun | 0 => 0 | 3 => 3 | 4 => 4 | 9 => 9 | 20 => 20 | 22 => 22 | 25 => 5 | n => n, fun n => n⟩
set_option maxRecDepth 1000000 in
theorem laysGrow : Go.Proofs.Lays8.n4 Tryd.prog renGrow := {
  mixed := by kernel_rfl
  f4 := ⟨"slices.Grow[[]byte,byte]", by decide, Tryd.func42.trans (congrArg some (by kernel_rfl))⟩
  t0 := by kernel_rfl
  a0 := Tryd.isAgg0
  z0 := Tryd.sizeOf0
  v0 := Tryd.zeroValue0
  t3 := by kernel_rfl
  a3 := Tryd.isAgg3
  z3 := Tryd.sizeOf3
  v3 := Tryd.zeroValue3
  t4 := by kernel_rfl
  a4 := Tryd.isAgg4
  z4 := Tryd.sizeOf4
  v4 := Tryd.zeroValue4
  t9 := by kernel_rfl
  a9 := Tryd.isAgg9
  z9 := Tryd.sizeOf9
  v9 := Tryd.zeroValue9
  t20 := by kernel_rfl
  a20 := Tryd.isAgg20
  z20 := Tryd.sizeOf20
  v20 := Tryd.zeroValue20
  t22 := by kernel_rfl
  a22 := Tryd.isAgg22
  z22 := Tryd.sizeOf22
  v22 := Tryd.zeroValue22 }

end Go.Proofs.YtdlhabldjdkfbaaDoor

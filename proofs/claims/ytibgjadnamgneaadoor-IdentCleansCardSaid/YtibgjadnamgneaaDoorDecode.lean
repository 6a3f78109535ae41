/- unicode/utf8.DecodeRune laid at this translation (the library's theorem, applied). -/
import Derived.Test.YtibgjadnamgneaaDoorTabs
import Derived.Shelf.Spec.DecodeRune
namespace Go.Proofs.YtibgjadnamgneaaDoor
set_option linter.unusedVariables false
set_option linter.unusedSimpArgs false
open Go.RowKit

def renDecode : Go.Shelf.Ren := ⟨fun | 32 => 32 | 49 => 54 | n => n, fun | 0 => 0 | 3 => 3 | 4 => 4 | 5 => 5 | 21 => 21 | 25 => 26 | 30 => 43 | 33 => 46 | 66 => 78 | 68 => 80 | 69 => 81 | n => n, fun | 2 => 0 | 3 => 1 | n => n⟩
set_option maxRecDepth 1000000 in
theorem laysDecode : Go.Proofs.Lays7.n32 Tryd.prog renDecode := {
  mixed := by kernel_rfl
  f32 := Tryd.func32.trans (congrArg some (by kernel_rfl))
  f49 := Tryd.func54.trans (congrArg some (by kernel_rfl))
  t0 := by kernel_rfl
  a0 := Tryd.isAgg0
  z0 := Tryd.sizeOf0
  v0 := Tryd.zeroValue0
  i0 := by kernel_rfl
  t3 := by kernel_rfl
  a3 := Tryd.isAgg3
  z3 := Tryd.sizeOf3
  v3 := Tryd.zeroValue3
  i3 := by kernel_rfl
  t4 := by kernel_rfl
  a4 := Tryd.isAgg4
  z4 := Tryd.sizeOf4
  v4 := Tryd.zeroValue4
  i4 := by kernel_rfl
  t5 := by kernel_rfl
  a5 := Tryd.isAgg5
  z5 := Tryd.sizeOf5
  v5 := Tryd.zeroValue5
  i5 := by kernel_rfl
  t21 := by kernel_rfl
  a21 := Tryd.isAgg21
  z21 := Tryd.sizeOf21
  v21 := Tryd.zeroValue21
  i21 := by kernel_rfl
  t25 := by kernel_rfl
  a25 := Tryd.isAgg26
  z25 := Tryd.sizeOf26
  v25 := Tryd.zeroValue26
  i25 := by kernel_rfl
  t30 := by kernel_rfl
  a30 := Tryd.isAgg43
  z30 := Tryd.sizeOf43
  v30 := Tryd.zeroValue43
  i30 := by kernel_rfl
  t33 := by kernel_rfl
  a33 := Tryd.isAgg46
  z33 := Tryd.sizeOf46
  v33 := Tryd.zeroValue46
  i33 := by kernel_rfl
  t66 := by kernel_rfl
  a66 := Tryd.isAgg78
  z66 := Tryd.sizeOf78
  t68 := by kernel_rfl
  a68 := Tryd.isAgg80
  z68 := Tryd.sizeOf80
  v68 := Tryd.zeroValue80
  i68 := by kernel_rfl
  t69 := by kernel_rfl
  a69 := Tryd.isAgg81
  z69 := Tryd.sizeOf81
  v69 := Tryd.zeroValue81
  i69 := by kernel_rfl
  g2 := by kernel_rfl
  g3 := by kernel_rfl }
theorem utf8_DecodeRune (s : ByteArray) (b off cap : Nat) (w : World) (hT : U8Ok w) (hp : ∀ j, j < s.size → w.cell? ⟨b, off + j, none⟩ = some (.int .u8 (s.get! j).toNat)) :
    Calls Tryd.prog 32 #[.slice (some ⟨b, off, none⟩) s.size cap] w fun e w' => e = .returned (.tuple #[.int .i32 (Lib.decodeGo s).1, .int .i64 (Lib.decodeGo s).2]) ∧ Grew w w' :=
  Any7.utf8_DecodeRune laysDecode s b off cap w hT hp

end Go.Proofs.YtibgjadnamgneaaDoor

/- The shelf's contract of slices.Insert at ints, laid over this seat's translation. Conditions: each theorem's own premises. -/
import Derived.Shelf.Spec.SlicesInsert
import Derived.Shelf.Spec.SlicesInsertGrow
import Derived.Test.YtoggkfapdomhgaaDoorProg
namespace Go.Proofs
open Go.Shelf
def Tryd.lays2n21_ren : Go.Shelf.Ren := ⟨fun | 21 => 45 | 27 => 65 | 28 => 66 | 35 => 75 | 39 => 81 | n => n, fun | 0 => 0 | 3 => 3 | 4 => 4 | 22 => 24 | n => n, fun | n => n⟩
theorem Tryd.lays2n21 : Go.Proofs.Lays2.n21 Tryd.prog Tryd.lays2n21_ren := {
  mixed := by kernel_rfl
  f21 := Tryd.func45.trans (congrArg some (by kernel_rfl))
  f27 := Tryd.func65.trans (congrArg some (by kernel_rfl))
  f28 := Tryd.func66.trans (congrArg some (by kernel_rfl))
  f35 := Tryd.func75.trans (congrArg some (by kernel_rfl))
  f39 := Tryd.func81.trans (congrArg some (by kernel_rfl))
  t0 := Tryd.underlying0
  a0 := Tryd.isAgg0
  z0 := Tryd.sizeOf0
  v0 := Tryd.zeroValue0
  t3 := Tryd.underlying3
  a3 := Tryd.isAgg3
  z3 := Tryd.sizeOf3
  v3 := Tryd.zeroValue3
  t4 := Tryd.underlying4
  a4 := Tryd.isAgg4
  z4 := Tryd.sizeOf4
  v4 := Tryd.zeroValue4
  t22 := Tryd.underlying24
  a22 := Tryd.isAgg24
  z22 := Tryd.sizeOf24
  v22 := Tryd.zeroValue24
  i3 := by kernel_rfl }
end Go.Proofs

/-
  slices.Insert at []int: the kit's contract, at this program. Conditions: none.
-/
import Derived.Shelf.Spec.SlicesInsertGrow
import Derived.Test.YtchhhoamnagbfaaDoorProg
import Derived.KernelRfl
namespace Go.Proofs.YtchhhoamnagbfaaDoor
open Go Go.RowKit Go.Lib
set_option linter.unusedVariables false
def insR_ren : Go.Shelf.Ren := ⟨fun | 21 => 83 | 27 => 103 | 28 => 104 | 35 => 112 | 39 => 120 | n => n, fun | 22 => 77 | 3 => 3 | 4 => 4 | 0 => 0 | n => n, fun | n => n⟩
theorem insR : Go.Proofs.Lays2.n21 Tryd.prog insR_ren := {
  mixed := (by kernel_rfl),
  f21 := Tryd.func83.trans (congrArg some (by kernel_rfl)),
  f27 := Tryd.func103.trans (congrArg some (by kernel_rfl)),
  f28 := Tryd.func104.trans (congrArg some (by kernel_rfl)),
  f35 := Tryd.func112.trans (congrArg some (by kernel_rfl)),
  f39 := Tryd.func120.trans (congrArg some (by kernel_rfl)),
  t0 := Tryd.underlying0,
  a0 := Tryd.isAgg0,
  z0 := Tryd.sizeOf0,
  v0 := Tryd.zeroValue0,
  t3 := Tryd.underlying3,
  a3 := Tryd.isAgg3,
  z3 := Tryd.sizeOf3,
  v3 := Tryd.zeroValue3,
  t4 := Tryd.underlying4,
  a4 := Tryd.isAgg4,
  z4 := Tryd.sizeOf4,
  v4 := Tryd.zeroValue4,
  t22 := Tryd.underlying77,
  a22 := Tryd.isAgg77,
  z22 := Tryd.sizeOf77,
  v22 := Tryd.zeroValue77,
  i3 := (by kernel_rfl) }
end Go.Proofs.YtchhhoamnagbfaaDoor

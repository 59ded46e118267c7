/-
  slices.Insert at []int: the kit's contract, at this program. Conditions: none.
-/
import Derived.Shelf.Spec.SlicesInsertGrow
import Derived.Test.YtchhhoamnagbfaaProg
import Derived.KernelRfl
namespace Go.Proofs.Ytchhhoamnagbfaa
open Go Go.RowKit Go.Lib
set_option linter.unusedVariables false
def insR_ren : Go.Shelf.Ren := ⟨fun | 21 => 18 | 27 => 33 | 28 => 34 | 35 => 40 | 39 => 45 | n => n, fun | 22 => 26 | 3 => 3 | 4 => 4 | 0 => 0 | n => n, fun | n => n⟩
theorem insR : Go.Proofs.Lays2.n21 Try.prog insR_ren := {
  mixed := (by kernel_rfl),
  f21 := Try.func18.trans (congrArg some (by kernel_rfl)),
  f27 := Try.func33.trans (congrArg some (by kernel_rfl)),
  f28 := Try.func34.trans (congrArg some (by kernel_rfl)),
  f35 := Try.func40.trans (congrArg some (by kernel_rfl)),
  f39 := Try.func45.trans (congrArg some (by kernel_rfl)),
  t0 := Try.underlying0,
  a0 := Try.isAgg0,
  z0 := Try.sizeOf0,
  v0 := Try.zeroValue0,
  t3 := Try.underlying3,
  a3 := Try.isAgg3,
  z3 := Try.sizeOf3,
  v3 := Try.zeroValue3,
  t4 := Try.underlying4,
  a4 := Try.isAgg4,
  z4 := Try.sizeOf4,
  v4 := Try.zeroValue4,
  t22 := Try.underlying26,
  a22 := Try.isAgg26,
  z22 := Try.sizeOf26,
  v22 := Try.zeroValue26,
  i3 := (by kernel_rfl) }
end Go.Proofs.Ytchhhoamnagbfaa

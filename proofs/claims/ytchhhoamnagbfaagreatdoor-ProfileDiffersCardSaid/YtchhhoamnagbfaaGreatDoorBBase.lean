/-
  What every contract of this seat leans on. Conditions: none.
-/
import Derived.Test.YtchhhoamnagbfaaGreatDoorBSyV
import Derived.Test.YtchhhoamnagbfaaGreatDoorBSyIt
import Derived.Test.YtchhhoamnagbfaaGreatDoorProg
import Derived.KernelRfl
namespace Go.Proofs.YtchhhoamnagbfaaGreatDoor
theorem mix_ok : Tryz.prog.follows .mixedOrders = true := by kernel_rfl
end Go.Proofs.YtchhhoamnagbfaaGreatDoor

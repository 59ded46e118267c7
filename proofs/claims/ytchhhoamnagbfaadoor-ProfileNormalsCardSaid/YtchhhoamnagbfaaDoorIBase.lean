/-
  What every contract of this seat leans on. Conditions: none.
-/
import Derived.Test.YtchhhoamnagbfaaDoorISyV
import Derived.Test.YtchhhoamnagbfaaDoorISyIt
import Derived.Test.YtchhhoamnagbfaaDoorProg
import Derived.KernelRfl
namespace Go.Proofs.YtchhhoamnagbfaaDoor
theorem mix_ok : Tryd.prog.follows .mixedOrders = true := by kernel_rfl
end Go.Proofs.YtchhhoamnagbfaaDoor

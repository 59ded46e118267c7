/-
  What every contract of this seat leans on. Conditions: none.
-/
import Derived.Test.YtchhhoamnagbfaaDoorCSyV
import Derived.Test.YtchhhoamnagbfaaDoorCSyIt
import Derived.Test.YtchhhoamnagbfaaDoorProg
import Derived.KernelRfl
namespace Go.Proofs.YtchhhoamnagbfaaDoor
theorem mix_ok : Tryd.prog.follows .mixedOrders = true := by kernel_rfl
end Go.Proofs.YtchhhoamnagbfaaDoor

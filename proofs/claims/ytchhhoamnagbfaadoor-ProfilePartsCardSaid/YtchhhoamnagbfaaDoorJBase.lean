/-
  What every contract of this seat leans on. Conditions: none.
-/
import Derived.Test.YtchhhoamnagbfaaDoorJSyV
import Derived.Test.YtchhhoamnagbfaaDoorJSyIt
import Derived.Test.YtchhhoamnagbfaaDoorProg
import Derived.KernelRfl
namespace Go.Proofs.YtchhhoamnagbfaaDoor
theorem mix_ok : Tryd.prog.follows .mixedOrders = true := by kernel_rfl
theorem kSeal : Go.Sy.CtrOk Tryd.prog Go.Sy.cSeal 3 := Go.Sy.seal_ok (fn := Tryd.f3) Tryd.func3 (by kernel_rfl) (by kernel_rfl)
end Go.Proofs.YtchhhoamnagbfaaDoor

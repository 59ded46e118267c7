/-
  What every contract of this seat leans on. Conditions: none.
-/
import Derived.Test.YtchhhoamnagbfaaTSyV
import Derived.Test.YtchhhoamnagbfaaTSyIt
import Derived.Test.YtchhhoamnagbfaaProg
import Derived.KernelRfl
namespace Go.Proofs.Ytchhhoamnagbfaa
theorem mix_ok : Try.prog.follows .mixedOrders = true := by kernel_rfl
end Go.Proofs.Ytchhhoamnagbfaa

/-
  What every contract of this seat leans on. Conditions: none.
-/
import Derived.Test.YtmjcegbnbnbceaaSyV
import Derived.Test.YtmjcegbnbnbceaaProg
import Derived.KernelRfl
namespace Go.Proofs.Ytmjcegbnbnbceaa
theorem mix_ok : Try.prog.follows .mixedOrders = true := by kernel_rfl
end Go.Proofs.Ytmjcegbnbnbceaa

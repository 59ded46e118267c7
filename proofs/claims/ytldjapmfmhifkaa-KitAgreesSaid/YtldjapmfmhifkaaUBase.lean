/-
 What every contract of this seat leans on. Conditions: none.
-/
import Derived.Test.YtldjapmfmhifkaaUSyV
import Derived.Test.YtldjapmfmhifkaaProg
import Derived.KernelRfl
namespace Go.Proofs.Ytldjapmfmhifkaa
theorem mix_ok:Try.prog.follows .mixedOrders=true:=by kernel_rfl
theorem kSeal:Go.Sy.CtrOk Try.prog Go.Sy.cSeal 3:=Go.Sy.seal_ok (fn:=Try.f3) Try.func3 (by kernel_rfl) (by kernel_rfl)
end Go.Proofs.Ytldjapmfmhifkaa

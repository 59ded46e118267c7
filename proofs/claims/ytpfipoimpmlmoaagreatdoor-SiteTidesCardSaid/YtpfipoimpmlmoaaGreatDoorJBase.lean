/-
 What every contract of this seat leans on. Conditions: none.
-/
import Derived.Test.YtpfipoimpmlmoaaGreatDoorJSyV
import Derived.Test.YtpfipoimpmlmoaaGreatDoorProg
import Derived.KernelRfl
namespace Go.Proofs.YtpfipoimpmlmoaaGreatDoor
theorem mix_ok:Tryz.prog.follows .mixedOrders=true:=by kernel_rfl
theorem kSeal:Go.Sy.CtrOk Tryz.prog Go.Sy.cSeal 3:=Go.Sy.seal_ok (fn:=Tryz.f3) Tryz.func3 (by kernel_rfl) (by kernel_rfl)
end Go.Proofs.YtpfipoimpmlmoaaGreatDoor

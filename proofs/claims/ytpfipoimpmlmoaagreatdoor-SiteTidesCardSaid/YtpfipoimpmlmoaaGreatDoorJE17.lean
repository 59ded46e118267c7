/-
 The examples that every law of this chapter asks for hold. Conditions: none.
-/
import Derived.KernelRfl
import Derived.Test.YtpfipoimpmlmoaaGreatDoorJPTg
namespace Go.Proofs.YtpfipoimpmlmoaaGreatDoor
open Go Go.Sy
set_option linter.unusedVariables false
set_option maxRecDepth 100000
theorem n4_val:n4=true:=by kernel_rfl
end Go.Proofs.YtpfipoimpmlmoaaGreatDoor

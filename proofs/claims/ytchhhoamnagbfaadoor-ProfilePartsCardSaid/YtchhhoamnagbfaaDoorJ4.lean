/-
  Contracts of functions: models, equations by the kernel, contracts. Conditions: none.
-/
import Derived.Test.YtchhhoamnagbfaaDoorJ3
import Derived.KernelRfl
namespace Go.Proofs.YtchhhoamnagbfaaDoor
open Go Go.Sy
set_option linter.unusedVariables false
set_option linter.unusedSimpArgs false
set_option maxRecDepth 100000
set_option maxHeartbeats 2000000
/-! ### shotline/profile.Print$1, both -/
noncomputable def c85 : Ctr := orC c85u c85f
theorem k85 : CtrOk Tryd.prog c85 85 := orC_ok k85u k85f
end Go.Proofs.YtchhhoamnagbfaaDoor

/-
  Contracts of functions: models, equations by the kernel, contracts. Conditions: none.
-/
import Derived.Test.YtchhhoamnagbfaaGreatDoorB4
import Derived.KernelRfl
namespace Go.Proofs.YtchhhoamnagbfaaGreatDoor
open Go Go.Sy
set_option linter.unusedVariables false
set_option linter.unusedSimpArgs false
set_option maxRecDepth 100000
set_option maxHeartbeats 2000000
/-! ### shotline/profile.Print$1, both -/
noncomputable def c53 : Ctr := orC c53u c53f
theorem k53 : CtrOk Tryz.prog c53 53 := orC_ok k53u k53f

end Go.Proofs.YtchhhoamnagbfaaGreatDoor

/-
  Contracts of functions: models, equations by the kernel, contracts. Conditions: none.
-/
import Derived.Test.YtmndejpcpfkajaaA4
import Derived.KernelRfl
namespace Go.Proofs.Ytmndejpcpfkajaa
open Go Go.Sy
set_option linter.unusedVariables false
set_option linter.unusedSimpArgs false
set_option maxRecDepth 100000
set_option maxHeartbeats 2000000
/-! ### shotline/shotlineref06.Copy sealed -/
noncomputable def c36s : Ctr := sealG c36r
theorem k36s : CtrOk Try.prog c36s 36 := seal_g k36r
noncomputable def c36q : Ctr := roG c36r
theorem k36q : CtrOk Try.prog c36q 36 := ro_g k36r
end Go.Proofs.Ytmndejpcpfkajaa

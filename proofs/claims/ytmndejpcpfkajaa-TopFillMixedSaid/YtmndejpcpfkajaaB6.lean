/-
 Contracts of functions: models, equations by the kernel, contracts. Conditions: none.
-/
import Derived.Test.YtmndejpcpfkajaaB5
import Derived.KernelRfl
namespace Go.Proofs.Ytmndejpcpfkajaa
open Go Go.Sy
noncomputable section
set_option linter.unusedVariables false
set_option linter.unusedSimpArgs false
set_option maxRecDepth 100000
set_option maxHeartbeats 2000000
/-! ### shotline/shotlineref06.Copy sealed -/
def c36s : Ctr := sealG c36r
theorem k36s : CtrOk Try.prog c36s 36 := seal_g k36r
def c36q : Ctr := roG c36r
theorem k36q : CtrOk Try.prog c36q 36 := ro_g k36r
end
end Go.Proofs.Ytmndejpcpfkajaa

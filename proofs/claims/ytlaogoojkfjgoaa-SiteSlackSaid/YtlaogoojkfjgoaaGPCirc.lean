/-
  The circle's rays: worked out. Conditions: none.
-/
import Derived.Test.YtlaogoojkfjgoaaG1
import Derived.Test.YtlaogoojkfjgoaaG2
import Derived.Test.YtlaogoojkfjgoaaG3
import Derived.Test.YtlaogoojkfjgoaaG4
import Derived.KernelRfl
import Derived.Test.YtlaogoojkfjgoaaGFSlack
import Derived.Test.YtlaogoojkfjgoaaGPLoop
import Derived.Test.YtlaogoojkfjgoaaGPAng
namespace Go.Proofs.Ytlaogoojkfjgoaa
open Go Go.Sy
set_option linter.unusedVariables false
set_option linter.unusedSimpArgs false
set_option maxRecDepth 100000
theorem n98_val : n98 = true := by kernel_rfl
end Go.Proofs.Ytlaogoojkfjgoaa

/-
  The circle's rays: worked out. Conditions: none.
-/
import Derived.Test.YtlaogoojkfjgoaaK1
import Derived.Test.YtlaogoojkfjgoaaK2
import Derived.Test.YtlaogoojkfjgoaaK3
import Derived.Test.YtlaogoojkfjgoaaK4
import Derived.Test.YtlaogoojkfjgoaaK5
import Derived.KernelRfl
import Derived.Test.YtlaogoojkfjgoaaKFSurely
import Derived.Test.YtlaogoojkfjgoaaKPLoop
import Derived.Test.YtlaogoojkfjgoaaKPAng
namespace Go.Proofs.Ytlaogoojkfjgoaa
open Go Go.Sy
set_option linter.unusedVariables false
set_option linter.unusedSimpArgs false
set_option maxRecDepth 100000
theorem n98_val : n98 = true := by kernel_rfl
end Go.Proofs.Ytlaogoojkfjgoaa

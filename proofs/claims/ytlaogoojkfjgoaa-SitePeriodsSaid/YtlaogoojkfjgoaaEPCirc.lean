/-
  The circle's rays: worked out. Conditions: none.
-/
import Derived.Test.YtlaogoojkfjgoaaE1
import Derived.Test.YtlaogoojkfjgoaaE2
import Derived.Test.YtlaogoojkfjgoaaE3
import Derived.Test.YtlaogoojkfjgoaaE4
import Derived.KernelRfl
import Derived.Test.YtlaogoojkfjgoaaEFPeriods
import Derived.Test.YtlaogoojkfjgoaaEPLoop
import Derived.Test.YtlaogoojkfjgoaaEPAng
namespace Go.Proofs.Ytlaogoojkfjgoaa
open Go Go.Sy
set_option linter.unusedVariables false
set_option linter.unusedSimpArgs false
set_option maxRecDepth 100000
theorem n98_val : n98 = true := by kernel_rfl
end Go.Proofs.Ytlaogoojkfjgoaa

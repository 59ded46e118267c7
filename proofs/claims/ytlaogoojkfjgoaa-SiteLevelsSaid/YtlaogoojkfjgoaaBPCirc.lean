/-
  The circle's rays: worked out. Conditions: none.
-/
import Derived.Test.YtlaogoojkfjgoaaB1
import Derived.Test.YtlaogoojkfjgoaaB2
import Derived.Test.YtlaogoojkfjgoaaB3
import Derived.Test.YtlaogoojkfjgoaaB4
import Derived.KernelRfl
import Derived.Test.YtlaogoojkfjgoaaBFLevels
import Derived.Test.YtlaogoojkfjgoaaBPLoop
import Derived.Test.YtlaogoojkfjgoaaBPAng
namespace Go.Proofs.Ytlaogoojkfjgoaa
open Go Go.Sy
set_option linter.unusedVariables false
set_option maxRecDepth 100000
theorem n98_val : n98 = true := by kernel_rfl
end Go.Proofs.Ytlaogoojkfjgoaa

/-
  The examples that every law of this chapter asks for hold. Conditions: none.
-/
import Derived.Test.YtlaogoojkfjgoaaR1
import Derived.Test.YtlaogoojkfjgoaaR2
import Derived.Test.YtlaogoojkfjgoaaR3
import Derived.Test.YtlaogoojkfjgoaaR4
import Derived.KernelRfl
import Derived.Test.YtlaogoojkfjgoaaRFRuns
import Derived.Test.YtlaogoojkfjgoaaRPLoop
import Derived.Test.YtlaogoojkfjgoaaRPAng
import Derived.Test.YtlaogoojkfjgoaaRPChart
import Derived.Test.YtlaogoojkfjgoaaRPFlat
import Derived.Test.YtlaogoojkfjgoaaRPCheckW
namespace Go.Proofs.Ytlaogoojkfjgoaa
open Go Go.Sy
set_option linter.unusedVariables false
set_option maxRecDepth 100000
theorem n17_val : n17 = true := by kernel_rfl
end Go.Proofs.Ytlaogoojkfjgoaa

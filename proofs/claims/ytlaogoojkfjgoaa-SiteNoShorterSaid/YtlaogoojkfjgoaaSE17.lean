/-
  The examples that every law of this chapter asks for hold. Conditions: none.
-/
import Derived.Test.YtlaogoojkfjgoaaS1
import Derived.Test.YtlaogoojkfjgoaaS2
import Derived.Test.YtlaogoojkfjgoaaS3
import Derived.Test.YtlaogoojkfjgoaaS4
import Derived.Test.YtlaogoojkfjgoaaS5
import Derived.KernelRfl
import Derived.Test.YtlaogoojkfjgoaaSFNoShorter
import Derived.Test.YtlaogoojkfjgoaaSPLoop
import Derived.Test.YtlaogoojkfjgoaaSPAng
import Derived.Test.YtlaogoojkfjgoaaSPChart
import Derived.Test.YtlaogoojkfjgoaaSPFlat
import Derived.Test.YtlaogoojkfjgoaaSPWay
import Derived.Test.YtlaogoojkfjgoaaSPWay2
namespace Go.Proofs.Ytlaogoojkfjgoaa
open Go Go.Sy
set_option linter.unusedVariables false
set_option maxRecDepth 100000
theorem n17_val : n17 = true := by kernel_rfl
end Go.Proofs.Ytlaogoojkfjgoaa

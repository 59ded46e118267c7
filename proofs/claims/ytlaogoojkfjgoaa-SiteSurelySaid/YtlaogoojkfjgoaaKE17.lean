/-
  The examples that every law of this chapter asks for hold. Conditions: none.
-/
import Derived.Test.YtlaogoojkfjgoaaK1
import Derived.Test.YtlaogoojkfjgoaaK2
import Derived.Test.YtlaogoojkfjgoaaK3
import Derived.Test.YtlaogoojkfjgoaaK4
import Derived.Test.YtlaogoojkfjgoaaK5
import Derived.KernelRfl
import Derived.Test.YtlaogoojkfjgoaaKFSurely
import Derived.Test.YtlaogoojkfjgoaaKPLoop
import Derived.Test.YtlaogoojkfjgoaaKPAng
import Derived.Test.YtlaogoojkfjgoaaKPCirc
import Derived.Test.YtlaogoojkfjgoaaKPRay
import Derived.Test.YtlaogoojkfjgoaaKPCos
import Derived.Test.YtlaogoojkfjgoaaKPTide
namespace Go.Proofs.Ytlaogoojkfjgoaa
open Go Go.Sy
set_option linter.unusedVariables false
set_option maxRecDepth 100000
theorem n17_val : n17 = true := by kernel_rfl
end Go.Proofs.Ytlaogoojkfjgoaa

/-
  The examples that every law of this chapter asks for hold. Conditions: none.
-/
import Derived.Test.YtlaogoojkfjgoaaG1
import Derived.Test.YtlaogoojkfjgoaaG2
import Derived.Test.YtlaogoojkfjgoaaG3
import Derived.Test.YtlaogoojkfjgoaaG4
import Derived.KernelRfl
import Derived.Test.YtlaogoojkfjgoaaGFSlack
import Derived.Test.YtlaogoojkfjgoaaGPLoop
import Derived.Test.YtlaogoojkfjgoaaGPAng
import Derived.Test.YtlaogoojkfjgoaaGPCirc
import Derived.Test.YtlaogoojkfjgoaaGPRay
import Derived.Test.YtlaogoojkfjgoaaGPCos
import Derived.Test.YtlaogoojkfjgoaaGPTide
namespace Go.Proofs.Ytlaogoojkfjgoaa
open Go Go.Sy
set_option linter.unusedVariables false
set_option maxRecDepth 100000
theorem n17_val : n17 = true := by kernel_rfl
end Go.Proofs.Ytlaogoojkfjgoaa

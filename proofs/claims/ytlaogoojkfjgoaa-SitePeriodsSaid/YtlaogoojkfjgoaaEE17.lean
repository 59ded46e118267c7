/-
  The examples that every law of this chapter asks for hold. Conditions: none.
-/
import Derived.Test.YtlaogoojkfjgoaaE1
import Derived.Test.YtlaogoojkfjgoaaE2
import Derived.Test.YtlaogoojkfjgoaaE3
import Derived.Test.YtlaogoojkfjgoaaE4
import Derived.KernelRfl
import Derived.Test.YtlaogoojkfjgoaaEFPeriods
import Derived.Test.YtlaogoojkfjgoaaEPLoop
import Derived.Test.YtlaogoojkfjgoaaEPAng
import Derived.Test.YtlaogoojkfjgoaaEPCirc
import Derived.Test.YtlaogoojkfjgoaaEPRay
import Derived.Test.YtlaogoojkfjgoaaEPCos
import Derived.Test.YtlaogoojkfjgoaaEPTide
namespace Go.Proofs.Ytlaogoojkfjgoaa
open Go Go.Sy
set_option linter.unusedVariables false
set_option maxRecDepth 100000
theorem n17_val : n17 = true := by kernel_rfl
end Go.Proofs.Ytlaogoojkfjgoaa

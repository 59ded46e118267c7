/-
  The examples that every law of this chapter asks for hold. Conditions: none.
-/
import Derived.Test.YtlaogoojkfjgoaaV1
import Derived.Test.YtlaogoojkfjgoaaV2
import Derived.Test.YtlaogoojkfjgoaaV3
import Derived.Test.YtlaogoojkfjgoaaV4
import Derived.KernelRfl
import Derived.Test.YtlaogoojkfjgoaaVFWinds
import Derived.Test.YtlaogoojkfjgoaaVPLoop
import Derived.Test.YtlaogoojkfjgoaaVPAng
import Derived.Test.YtlaogoojkfjgoaaVPWinds
import Derived.Test.YtlaogoojkfjgoaaVPTide
namespace Go.Proofs.Ytlaogoojkfjgoaa
open Go Go.Sy
set_option linter.unusedVariables false
set_option maxRecDepth 100000
theorem n17_val : n17 = true := by kernel_rfl
end Go.Proofs.Ytlaogoojkfjgoaa

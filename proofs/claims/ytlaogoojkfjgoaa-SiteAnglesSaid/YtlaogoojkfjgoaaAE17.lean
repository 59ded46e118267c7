/-
  The examples that every law of this chapter asks for hold. Conditions: none.
-/
import Derived.Test.YtlaogoojkfjgoaaA1
import Derived.Test.YtlaogoojkfjgoaaA2
import Derived.Test.YtlaogoojkfjgoaaA3
import Derived.KernelRfl
import Derived.Test.YtlaogoojkfjgoaaAFAngles
import Derived.Test.YtlaogoojkfjgoaaAPLoop
import Derived.Test.YtlaogoojkfjgoaaAPAng
namespace Go.Proofs.Ytlaogoojkfjgoaa
open Go Go.Sy
set_option linter.unusedVariables false
set_option maxRecDepth 100000
theorem n17_val : n17 = true := by kernel_rfl
end Go.Proofs.Ytlaogoojkfjgoaa

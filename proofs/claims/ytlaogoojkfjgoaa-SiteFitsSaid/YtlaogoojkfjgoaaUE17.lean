/-
  The examples that every law of this chapter asks for hold. Conditions: none.
-/
import Derived.Test.YtlaogoojkfjgoaaU1
import Derived.Test.YtlaogoojkfjgoaaU2
import Derived.Test.YtlaogoojkfjgoaaU3
import Derived.KernelRfl
import Derived.Test.YtlaogoojkfjgoaaUFFits
import Derived.Test.YtlaogoojkfjgoaaUPLoop
import Derived.Test.YtlaogoojkfjgoaaUPAng
import Derived.Test.YtlaogoojkfjgoaaUPCheckW
import Derived.Test.YtlaogoojkfjgoaaUPFlat
namespace Go.Proofs.Ytlaogoojkfjgoaa
open Go Go.Sy
set_option linter.unusedVariables false
set_option maxRecDepth 100000
theorem n17_val : n17 = true := by kernel_rfl
end Go.Proofs.Ytlaogoojkfjgoaa

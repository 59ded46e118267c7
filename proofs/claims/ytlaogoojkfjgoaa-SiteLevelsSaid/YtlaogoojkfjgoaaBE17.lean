/-
  The examples that every law of this chapter asks for hold. Conditions: none.
-/
import Derived.Test.YtlaogoojkfjgoaaB1
import Derived.Test.YtlaogoojkfjgoaaB2
import Derived.Test.YtlaogoojkfjgoaaB3
import Derived.Test.YtlaogoojkfjgoaaB4
import Derived.KernelRfl
import Derived.Test.YtlaogoojkfjgoaaBFLevels
import Derived.Test.YtlaogoojkfjgoaaBPLoop
import Derived.Test.YtlaogoojkfjgoaaBPAng
import Derived.Test.YtlaogoojkfjgoaaBPCirc
import Derived.Test.YtlaogoojkfjgoaaBPRay
import Derived.Test.YtlaogoojkfjgoaaBPCos
import Derived.Test.YtlaogoojkfjgoaaBPTide
namespace Go.Proofs.Ytlaogoojkfjgoaa
open Go Go.Sy
set_option linter.unusedVariables false
set_option maxRecDepth 100000
theorem n17_val : n17 = true := by kernel_rfl
end Go.Proofs.Ytlaogoojkfjgoaa

/-
  The examples that every law of this chapter asks for hold. Conditions: none.
-/
import Derived.Test.YtlaogoojkfjgoaaC1
import Derived.Test.YtlaogoojkfjgoaaC2
import Derived.Test.YtlaogoojkfjgoaaC3
import Derived.Test.YtlaogoojkfjgoaaC4
import Derived.Test.YtlaogoojkfjgoaaC5
import Derived.KernelRfl
import Derived.Test.YtlaogoojkfjgoaaCFCosines
import Derived.Test.YtlaogoojkfjgoaaCPLoop
import Derived.Test.YtlaogoojkfjgoaaCPAng
import Derived.Test.YtlaogoojkfjgoaaCPCirc
import Derived.Test.YtlaogoojkfjgoaaCPRay
import Derived.Test.YtlaogoojkfjgoaaCPCos
namespace Go.Proofs.Ytlaogoojkfjgoaa
open Go Go.Sy
set_option linter.unusedVariables false
set_option maxRecDepth 100000
theorem n17_val : n17 = true := by kernel_rfl
end Go.Proofs.Ytlaogoojkfjgoaa

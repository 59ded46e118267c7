/-
  The examples that every law of this chapter asks for hold. Conditions: none.
-/
import Derived.Test.YtlaogoojkfjgoaaH1
import Derived.Test.YtlaogoojkfjgoaaH2
import Derived.Test.YtlaogoojkfjgoaaH3
import Derived.Test.YtlaogoojkfjgoaaH4
import Derived.Test.YtlaogoojkfjgoaaH5
import Derived.KernelRfl
import Derived.Test.YtlaogoojkfjgoaaHFSlackWindows
import Derived.Test.YtlaogoojkfjgoaaHPLoop
import Derived.Test.YtlaogoojkfjgoaaHPAng
import Derived.Test.YtlaogoojkfjgoaaHPCirc
import Derived.Test.YtlaogoojkfjgoaaHPRay
import Derived.Test.YtlaogoojkfjgoaaHPCos
import Derived.Test.YtlaogoojkfjgoaaHPTide
namespace Go.Proofs.Ytlaogoojkfjgoaa
open Go Go.Sy
set_option linter.unusedVariables false
set_option maxRecDepth 100000
theorem n17_val : n17 = true := by kernel_rfl
end Go.Proofs.Ytlaogoojkfjgoaa

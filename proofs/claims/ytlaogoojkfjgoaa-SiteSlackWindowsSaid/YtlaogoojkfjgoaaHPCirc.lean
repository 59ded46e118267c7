/-
  The circle's rays: worked out. Conditions: none.
-/
import Derived.Test.YtlaogoojkfjgoaaH1
import Derived.Test.YtlaogoojkfjgoaaH2
import Derived.Test.YtlaogoojkfjgoaaH3
import Derived.Test.YtlaogoojkfjgoaaH4
import Derived.Test.YtlaogoojkfjgoaaH5
import Derived.KernelRfl
import Derived.Test.YtlaogoojkfjgoaaHFSlackWindows
import Derived.Test.YtlaogoojkfjgoaaHPLoop
import Derived.Test.YtlaogoojkfjgoaaHPAng
namespace Go.Proofs.Ytlaogoojkfjgoaa
open Go Go.Sy
set_option linter.unusedVariables false
set_option linter.unusedSimpArgs false
set_option maxRecDepth 100000
theorem n98_val : n98 = true := by kernel_rfl
end Go.Proofs.Ytlaogoojkfjgoaa

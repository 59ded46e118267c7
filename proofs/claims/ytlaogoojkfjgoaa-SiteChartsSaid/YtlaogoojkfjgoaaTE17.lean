/-
  The examples that every law of this chapter asks for hold. Conditions: none.
-/
import Derived.Test.YtlaogoojkfjgoaaT1
import Derived.Test.YtlaogoojkfjgoaaT2
import Derived.Test.YtlaogoojkfjgoaaT3
import Derived.KernelRfl
import Derived.Test.YtlaogoojkfjgoaaTFCharts
import Derived.Test.YtlaogoojkfjgoaaTPLoop
import Derived.Test.YtlaogoojkfjgoaaTPAng
import Derived.Test.YtlaogoojkfjgoaaTPChart
import Derived.Test.YtlaogoojkfjgoaaTPFlat
import Derived.Test.YtlaogoojkfjgoaaTPWay
import Derived.Test.YtlaogoojkfjgoaaTPWay2
namespace Go.Proofs.Ytlaogoojkfjgoaa
open Go Go.Sy
set_option linter.unusedVariables false
set_option maxRecDepth 100000
theorem n17_val : n17 = true := by kernel_rfl
end Go.Proofs.Ytlaogoojkfjgoaa

/-
  The examples that every law of this chapter asks for hold. Conditions: none.
-/
import Derived.KernelRfl
import Derived.Test.YtlaogoojkfjgoaaB4
namespace Go.Proofs.Ytlaogoojkfjgoaa
open Go Go.Sy
set_option linter.unusedVariables false
set_option maxRecDepth 100000
theorem n17_val : n17 = true := by kernel_rfl
end Go.Proofs.Ytlaogoojkfjgoaa

/-
  Small charts, and their copies. Conditions: none.
-/
import Derived.Test.YtlaogoojkfjgoaaBPCheckW
namespace Go.Proofs.Ytlaogoojkfjgoaa
open Go Go.Sy
set_option linter.unusedVariables false
set_option linter.unusedSimpArgs false
set_option maxRecDepth 100000
attribute [local simp] brk
theorem m42_eq (n : Nat) (d : Dat) : m42 n d = (n, d) := by simp only [m42, Nat.zero_add]; rw [app_zero]
end Go.Proofs.Ytlaogoojkfjgoaa

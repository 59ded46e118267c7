/-
  The plain law of 'SiteFits': the law's model is true, and its need. Conditions: none.
-/
import Derived.Test.YtlaogoojkfjgoaaBPFlat
namespace Go.Proofs.Ytlaogoojkfjgoaa
open Go Go.Sy
set_option linter.unusedVariables false
set_option linter.unusedSimpArgs false
set_option maxRecDepth 100000
attribute [local simp] brk
theorem e17v : m17 = true := rfl
section
variable {n : Nat} {d : Dat} {a : Int}
end
theorem n42_t {n : Nat} (d : Dat) (h : n ≤ 1000) : n42 n d = true := by
  simp only [n42, Nat.zero_add, decide_eq_true (show n ≤ 1073741824 by omega), decide_eq_true (Nat.le_refl n)]; rfl
end Go.Proofs.Ytlaogoojkfjgoaa

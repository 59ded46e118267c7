/-
  The plain law of 'MixFactors': the law's model is true, and its need. Conditions: none.
-/
import Derived.Test.YtmjcegbnbnbceaaMFChecks
import Derived.Test.YtmjcegbnbnbceaaME1
import Derived.Test.YtmjcegbnbnbceaaMPMatches
import Derived.Test.YtmjcegbnbnbceaaMPPartials
import Derived.Test.YtmjcegbnbnbceaaMPCheckN
import Derived.Test.YtmjcegbnbnbceaaMPLoop
import Derived.Test.YtmjcegbnbnbceaaM1
import Derived.Test.YtmjcegbnbnbceaaM2
import Derived.Test.YtmjcegbnbnbceaaM3
import Derived.Test.YtmjcegbnbnbceaaM4
namespace Go.Proofs.Ytmjcegbnbnbceaa
open Go Go.Sy
set_option linter.unusedVariables false
set_option maxRecDepth 100000
attribute [local simp] brk
theorem m18_iff {x a b : Int} : m18 x a b = true ↔ a ≤ x ∧ x ≤ b := by
  simp only [m18]
  by_cases h1 : a ≤ x <;> by_cases h2 : x ≤ b <;> simp [h1, h2]
theorem m18_f {x a b : Int} (h : ¬ (a ≤ x ∧ x ≤ b)) : m18 x a b = false := by
  cases hh : m18 x a b with
  | false => rfl
  | true => exact absurd (m18_iff.1 hh) h
end Go.Proofs.Ytmjcegbnbnbceaa

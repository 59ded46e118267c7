/-
  Profiles as tracks: the check, the depth at a second, the allowed steps: plain law. Conditions: none.
-/
import Derived.Test.YtchhhoamnagbfaaDoorHFExtends
namespace Go.Proofs.YtchhhoamnagbfaaDoor
open Go Go.Sy
set_option linter.unusedVariables false
set_option linter.unusedSimpArgs false
set_option maxRecDepth 100000
attribute [local simp] brk
theorem wr {n : Int} (h0 : -9223372036854775808 ≤ n) (h1 : n ≤ 9223372036854775807) : IntKind.i64.wrap n = n := wrp h0 h1
theorem m52_iff {x a b : Int} : m52 x a b = true ↔ a ≤ x ∧ x ≤ b := by
  simp only [m52]
  by_cases h1 : a ≤ x <;> by_cases h2 : x ≤ b <;> simp [h1, h2]
end Go.Proofs.YtchhhoamnagbfaaDoor

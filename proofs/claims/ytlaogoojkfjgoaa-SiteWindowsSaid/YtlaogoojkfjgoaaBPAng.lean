/-
  Angles of waves: program and reference alike. Conditions: none.
-/
import Derived.Test.YtlaogoojkfjgoaaBPLoop
namespace Go.Proofs.Ytlaogoojkfjgoaa
open Go Go.Sy
set_option linter.unusedVariables false
set_option linter.unusedSimpArgs false
set_option maxRecDepth 100000
theorem wr {n : Int} (h0 : -9223372036854775808 ≤ n) (h1 : n ≤ 9223372036854775807) : IntKind.i64.wrap n = n := wrp h0 h1
theorem m29_iff {x a b : Int} : m29 x a b = true ↔ a ≤ x ∧ x ≤ b := by
  simp only [m29]
  by_cases h1 : a ≤ x <;> by_cases h2 : x ≤ b <;> simp [h1, h2]
theorem m22_iff {x : Int} : m22 x = true ↔ 0 ≤ x ∧ x ≤ 1000000 := by
  simp only [m22]; exact m29_iff
theorem m80_m22 (x : Int) : m80 x = m22 x := rfl
end Go.Proofs.Ytlaogoojkfjgoaa

/-
 The plain law of 'MixPartials': the law's model is true, and its need. Conditions: none.
-/
import Derived.Test.YtmndejpcpfkajaaBPMatches
namespace Go.Proofs.Ytmndejpcpfkajaa
open Go Go.Sy
set_option linter.unusedVariables false
set_option maxRecDepth 100000
theorem e83s {a b : Int} (h : m91 a b = 0) : (0 ≤ a ∧ a ≤ 1000) ∧ (0 ≤ b ∧ b ≤ 1000) ∧ a + b ≤ 1000 := by
 have h1 := e91 h
 refine ⟨h1.1, h1.2, ?_⟩
 have k : ∀ u : Int, 0 ≤ u → u ≤ 1000 → m32 u 0 1000 = true := fun u a b => by simp [m32, a, b]
 simp only [m91, k a h1.1.1 h1.1.2, k b h1.2.1 h1.2.2] at h
 rw [wr (by omega) (by omega)] at h
 by_cases hs : 1000 < a + b
 ·simp [hs] at h
 ·omega
end Go.Proofs.Ytmndejpcpfkajaa

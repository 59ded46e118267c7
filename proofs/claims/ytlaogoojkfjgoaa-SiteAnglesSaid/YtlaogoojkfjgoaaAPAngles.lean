/-
  The plain law of 'SiteAngles': the law's model is true, and its need. Conditions: none.
-/
import Derived.Test.YtlaogoojkfjgoaaA1
import Derived.Test.YtlaogoojkfjgoaaA2
import Derived.Test.YtlaogoojkfjgoaaA3
import Derived.Test.YtlaogoojkfjgoaaAFAngles
import Derived.Test.YtlaogoojkfjgoaaAPLoop
import Derived.Test.YtlaogoojkfjgoaaAPAng
import Derived.Test.YtlaogoojkfjgoaaAE17
namespace Go.Proofs.Ytlaogoojkfjgoaa
open Go Go.Sy
set_option linter.unusedVariables false
set_option maxRecDepth 100000
theorem lawAngles (h p f t : Int) : n8 h p f t = true ∧ m8 h p f t = true := by
  have e17 : m17 = true := rfl
  rcases m38_cases h p f with ⟨w, c1, c2⟩ | ⟨c1, c2⟩
  · by_cases ht : 0 ≤ t ∧ t ≤ 1000000
    · have m := ang_ok w ht.1 ht.2
      have t22 : m22 t = true := m22_iff.2 ht
      have e37 : m37 h p f t = ((m39 h p f t).1, (m39 h p f t).2, 0) := by
        simp only [m37, c2, m80_m22, t22, cond_true, cond_false, m.m103, m.m39]
      have g37 : n37 h p f t = true := by
        simp only [n37, c2, m80_m22, t22, cond_true, cond_false, m.n103]; rfl
      constructor
      · simp only [n8, n17_val, e17, g37, c1, t22, m.n39, decide_true, cond_true, cond_false, e37]; rfl
      · simp only [m8, e17, c1, t22, e37, decide_true, cond_true, cond_false]
    · have t22 : m22 t = false := by
        cases hh : m22 t with
        | false => rfl
        | true => exact absurd (m22_iff.1 hh) ht
      have e37 : m37 h p f t = (0, 0, 2) := by simp only [m37, c2, m80_m22, t22, cond_true, cond_false]
      have g37 : n37 h p f t = true := by simp only [n37, c2, m80_m22, t22, cond_true, cond_false]
      constructor
      · simp only [n8, n17_val, e17, g37, c1, t22, decide_true, cond_true, cond_false]; rfl
      · simp only [m8, e17, c1, t22, e37, decide_true, cond_true, cond_false]
  · have e37 : m37 h p f t = (0, 0, 2) := by simp only [m37, c2, cond_true, cond_false]
    have g37 : n37 h p f t = true := by simp only [n37, c2, cond_true, cond_false]
    constructor
    · simp only [n8, n17_val, e17, g37, c1, decide_eq_false (show ¬ (2 : Int) = 0 by decide), cond_true, cond_false]; rfl
    · simp only [m8, e17, c1, e37, decide_eq_false (show ¬ (2 : Int) = 0 by decide), decide_true, cond_true, cond_false]
end Go.Proofs.Ytlaogoojkfjgoaa

/-
  The plain law of 'SiteFits': the law's model is true, and its need. Conditions: none.
-/
import Derived.Test.YtlaogoojkfjgoaaV1
import Derived.Test.YtlaogoojkfjgoaaV2
import Derived.Test.YtlaogoojkfjgoaaV3
import Derived.Test.YtlaogoojkfjgoaaV4
import Derived.Test.YtlaogoojkfjgoaaVFWinds
import Derived.Test.YtlaogoojkfjgoaaVPLoop
import Derived.Test.YtlaogoojkfjgoaaVPAng
import Derived.Test.YtlaogoojkfjgoaaVPWinds
import Derived.Test.YtlaogoojkfjgoaaVPTide
import Derived.Test.YtlaogoojkfjgoaaVE17
import Derived.Test.YtlaogoojkfjgoaaVPWin
import Derived.Test.YtlaogoojkfjgoaaVPWinds2
import Derived.Test.YtlaogoojkfjgoaaVPSlackW
namespace Go.Proofs.Ytlaogoojkfjgoaa
open Go Go.Sy
set_option linter.unusedVariables false
set_option linter.unusedSimpArgs false
set_option maxRecDepth 100000
attribute [local simp] brk
section
variable {n : Nat} {d : Dat} {a : Int}
theorem same_ok {m : Nat} (hm : m ≤ 1000) {D E : Dat} (h : ∀ i, i < m → D.ii i 0 = E.ii i 0 ∧ D.ii i 1 = E.ii i 1) : n46 m D m E = true ∧ m46 m D m E = true := by
  have o : o46_0 m D m E 0 = some (first (fun _ => none) (false, default, ()) m 0) := by
    refine loop_first (n := m) (l := l46_0 m D m E) (by omega) (fun f i hi => ?_) (fun f => by simp only [l46_0, cdn]; rfl) m 0 _ (by omega) (by omega)
    obtain ⟨x, y⟩ := h i hi
    simp only [l46_0, cdl hi, cdd hi, cond_true, Int.toNat_natCast, x, y, decide_true, cond_false]
    simp
  rw [first_none fun _ _ _ => rfl] at o
  exact ⟨by simp only [n46, o, decide_true, cond_true, cond_false]; rfl, by simp only [m46, o, decide_true, cond_true, cond_false, Option.getD_some]⟩
end
end Go.Proofs.Ytlaogoojkfjgoaa

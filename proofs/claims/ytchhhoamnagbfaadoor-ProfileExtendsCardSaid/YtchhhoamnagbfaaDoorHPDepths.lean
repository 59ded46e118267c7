/-
  The law of depths: plain law. Conditions: none.
-/
import Derived.Test.YtchhhoamnagbfaaDoorHPAwake
namespace Go.Proofs.YtchhhoamnagbfaaDoor
open Go Go.Sy
set_option linter.unusedVariables false
set_option linter.unusedSimpArgs false
set_option maxRecDepth 100000
theorem app_nil0 (e d : Dat) : e.app 0 d = d := by
  have h : ∀ q : Nat, Nat.blt q 0 = false := fun q => rfl
  cases d
  simp only [Dat.app, h, cond_false, Nat.sub_zero]
end Go.Proofs.YtchhhoamnagbfaaDoor

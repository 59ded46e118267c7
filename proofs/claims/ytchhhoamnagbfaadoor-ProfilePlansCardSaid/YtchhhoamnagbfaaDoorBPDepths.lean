/-
  The law of depths: plain law. Conditions: none.
-/
import Derived.Test.YtchhhoamnagbfaaDoorBPAwake
namespace Go.Proofs.YtchhhoamnagbfaaDoor
open Go Go.Sy
set_option linter.unusedVariables false
set_option linter.unusedSimpArgs false
set_option maxRecDepth 100000
theorem app_nil0 (e d : Dat) : e.app 0 d = d := by
  have h : ∀ q : Nat, Nat.blt q 0 = false := fun q => rfl
  cases d
  simp only [Dat.app, h, cond_false, Nat.sub_zero]
theorem ceil_eq {X W : Int} (hW : 0 < W) : (X + W - 1) / W = -((-X) / W) := by
  have e := Int.mul_ediv_add_emod (-X) W
  have r0 := Int.emod_nonneg (-X) (show W ≠ 0 by omega)
  have r1 := Int.emod_lt_of_pos (-X) hW
  refine ((Int.ediv_emod_unique (r := W - 1 - (-X) % W) hW).2 ⟨?_, by omega, by omega⟩).1
  rw [Int.mul_neg]; omega
end Go.Proofs.YtchhhoamnagbfaaDoor

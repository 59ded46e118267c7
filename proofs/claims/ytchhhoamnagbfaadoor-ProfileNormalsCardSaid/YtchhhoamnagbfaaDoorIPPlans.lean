/-
  The law of plans: ends, points, mean depth, fastest ascent: plain law. Conditions: none.
-/
import Derived.Test.YtchhhoamnagbfaaDoorIPPlan
namespace Go.Proofs.YtchhhoamnagbfaaDoor
open Go Go.Sy
set_option linter.unusedVariables false
set_option linter.unusedSimpArgs false
set_option maxRecDepth 100000
section
variable {a : ByteArray} {b : Int} {ng : Nat} {g : Dat} {L : Nat} {e : Dat}
theorem Pln.small (P : Pln a b ng g L e) : a.size ≤ 12 := by
  have h := P.name
  simp only [m64] at h
  by_cases hs : 12 < (a.size : Int)
  · rw [decide_eq_true hs] at h
    revert h; cases decide ((a.size : Int) < 1) <;> intro h <;> cases h
  · omega
end
end Go.Proofs.YtchhhoamnagbfaaDoor

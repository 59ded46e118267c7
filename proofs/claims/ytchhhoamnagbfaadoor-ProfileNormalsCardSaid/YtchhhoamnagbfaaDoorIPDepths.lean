/-
  The law of depths: plain law. Conditions: none.
-/
import Derived.Test.YtchhhoamnagbfaaDoorIPAwake
namespace Go.Proofs.YtchhhoamnagbfaaDoor
open Go Go.Sy
set_option linter.unusedVariables false
set_option linter.unusedSimpArgs false
set_option maxRecDepth 100000
theorem app_nil0 (e d : Dat) : e.app 0 d = d := by
  have h : ∀ q : Nat, Nat.blt q 0 = false := fun q => rfl
  cases d
  simp only [Dat.app, h, cond_false, Nat.sub_zero]
def RAt (n : Nat) (d : Dat) (x num den : Int) : Prop := ∃ r, 1 ≤ r ∧ r < n ∧ d.ii (r - 1) 0 ≤ x ∧ x ≤ d.ii r 0 ∧ num = d.ii (r - 1) 1 * (d.ii r 0 - d.ii (r - 1) 0) + (d.ii r 1 - d.ii (r - 1) 1) * (x - d.ii (r - 1) 0) ∧ den = d.ii r 0 - d.ii (r - 1) 0
theorem RAt.bnd {n : Nat} {d : Dat} (T : Trk n d) {x num den : Int} (h : RAt n d x num den) : (1 ≤ den ∧ den ≤ 1000001) ∧ 0 ≤ num ∧ num ≤ 30000030000 := by
  obtain ⟨r, r1, rn, s1, s2, rfl, rfl⟩ := h
  have up := T.lt (show r - 1 < r by omega) rn
  have q1 := T.sec (r - 1) (by omega); have q2 := T.sec r rn
  have a := T.dep (r - 1) (by omega); have b := T.dep r rn
  have p1 := mulb a.1 a.2 (show 0 ≤ d.ii r 0 - x by omega) (Int.le_refl _)
  have p2 := mulb b.1 b.2 (show 0 ≤ x - d.ii (r - 1) 0 by omega) (Int.le_refl _)
  have e : d.ii (r - 1) 1 * (d.ii r 0 - d.ii (r - 1) 0) + (d.ii r 1 - d.ii (r - 1) 1) * (x - d.ii (r - 1) 0) = d.ii (r - 1) 1 * (d.ii r 0 - x) + d.ii r 1 * (x - d.ii (r - 1) 0) := by
    rw [Int.sub_mul, Int.mul_sub, Int.mul_sub, Int.mul_sub, Int.mul_sub]; omega
  rw [e]
  omega
end Go.Proofs.YtchhhoamnagbfaaDoor

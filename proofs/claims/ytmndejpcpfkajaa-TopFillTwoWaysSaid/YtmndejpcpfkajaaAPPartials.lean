/-
  The plain law of 'MixPartials': the law's model is true, and its need. Conditions: none.
-/
import Derived.Test.YtmndejpcpfkajaaAPMatches
namespace Go.Proofs.Ytmndejpcpfkajaa
open Go Go.Sy
set_option linter.unusedVariables false
set_option maxRecDepth 100000
theorem fl_props {X D : Int} (hD : 0 < D) (hX : 0 ≤ X) : 0 ≤ X / D ∧ X / D ≤ -((-X) / D) ∧ -((-X) / D) ≤ X / D + 1 ∧ D * (X / D) ≤ X ∧ X < D * (X / D) + D := by
  have e1 := Int.mul_ediv_add_emod X D
  have e2 := Int.mul_ediv_add_emod (-X) D
  have a1 := Int.emod_nonneg X (Int.ne_of_gt hD)
  have a2 := Int.emod_lt_of_pos X hD
  have b1 := Int.emod_nonneg (-X) (Int.ne_of_gt hD)
  have b2 := Int.emod_lt_of_pos (-X) hD
  have f0 := Int.ediv_nonneg hX (Int.le_of_lt hD)
  generalize X / D = f at *
  generalize (-X) / D = g at *
  have s : D * (f + g) = D * f + D * g := Int.mul_add _ _ _
  refine ⟨f0, ?_, ?_, by omega, by omega⟩
  · apply Decidable.byContradiction
    intro h
    have : D * 1 ≤ D * (f + g) := Int.mul_le_mul_of_nonneg_left (by omega) (by omega)
    omega
  · apply Decidable.byContradiction
    intro h
    have : D * (f + g) ≤ D * (-2) := Int.mul_le_mul_of_nonneg_left (by omega) (by omega)
    omega
theorem up_eq {X D : Int} (hD : 0 < D) : (X + D - 1) / D = -((-X) / D) := by
  have e1 := Int.mul_ediv_add_emod (X + D - 1) D
  have e2 := Int.mul_ediv_add_emod (-X) D
  have a1 := Int.emod_nonneg (X + D - 1) (Int.ne_of_gt hD)
  have a2 := Int.emod_lt_of_pos (X + D - 1) hD
  have b1 := Int.emod_nonneg (-X) (Int.ne_of_gt hD)
  have b2 := Int.emod_lt_of_pos (-X) hD
  generalize (X + D - 1) / D = f at *
  generalize (-X) / D = g at *
  have s : D * (f + g) = D * f + D * g := Int.mul_add _ _ _
  have h1 : f + g ≤ 0 := by
    apply Decidable.byContradiction
    intro h
    have : D * 1 ≤ D * (f + g) := Int.mul_le_mul_of_nonneg_left (by omega) (by omega)
    omega
  have h2 : 0 ≤ f + g := by
    apply Decidable.byContradiction
    intro h
    have : D * (f + g) ≤ D * (-1) := Int.mul_le_mul_of_nonneg_left (by omega) (by omega)
    omega
  omega
theorem m89_eq {x y : Int} (hy : 0 < y) (hy1 : y ≤ 1000000000000000000) (hx0 : 0 ≤ x) (hx1 : x ≤ 4000000000000000000) : m89 x y = (x / y, -((-x) / y)) ∧ n89 x y = true := by
  have hy' : decide (y = 0) = false := decide_eq_false (by omega)
  have q1 := Int.ediv_nonneg hx0 (Int.le_of_lt hy)
  have q2 := Int.ediv_le_self y hx0
  have r1 := Int.ediv_nonneg (show 0 ≤ x + y - 1 by omega) (Int.le_of_lt hy)
  have r2 := Int.ediv_le_self y (show 0 ≤ x + y - 1 by omega)
  constructor
  · simp only [m89]
    rw [wr (n := x + y) (by omega) (by omega), wr (n := x + y - 1) (by omega) (by omega), Int.tdiv_eq_ediv_of_nonneg hx0, Int.tdiv_eq_ediv_of_nonneg (by omega), wr (n := x / y) (by omega) (by omega), wr (n := (x + y - 1) / y) (by omega) (by omega), up_eq hy]
  · simp [n89, hy']
theorem e83s {a b : Int} (h : m91 a b = 0) : (0 ≤ a ∧ a ≤ 1000) ∧ (0 ≤ b ∧ b ≤ 1000) ∧ a + b ≤ 1000 := by
  have h1 := e91 h
  refine ⟨h1.1, h1.2, ?_⟩
  have k : ∀ u : Int, 0 ≤ u → u ≤ 1000 → m32 u 0 1000 = true := fun u a b => by simp [m32, a, b]
  simp only [m91, k a h1.1.1 h1.1.2, k b h1.2.1 h1.2.2] at h
  rw [wr (by omega) (by omega)] at h
  by_cases hs : 1000 < a + b
  · simp [hs] at h
  · omega
theorem mulabs {x y A B : Int} (h0 : -A ≤ x) (h1 : x ≤ A) (y0 : 0 ≤ y) (y1 : y ≤ B) (hA : 0 ≤ A) : -(A * B) ≤ x * y ∧ x * y ≤ A * B := by
  have h2 : A * y ≤ A * B := Int.mul_le_mul_of_nonneg_left y1 hA
  have h3 : x * y ≤ A * y := Int.mul_le_mul_of_nonneg_right h1 y0
  have h4 : (-A) * y ≤ x * y := Int.mul_le_mul_of_nonneg_right h0 y0
  rw [Int.neg_mul] at h4
  omega
end Go.Proofs.Ytmndejpcpfkajaa

/-
  The plain law of 'MixPartials': the law's model is true, and its need. Conditions: none.
-/
import Derived.Test.YtmjcegbnbnbceaaL1
import Derived.Test.YtmjcegbnbnbceaaL2
import Derived.Test.YtmjcegbnbnbceaaL3
import Derived.Test.YtmjcegbnbnbceaaL4
import Derived.Test.YtmjcegbnbnbceaaLFContents
import Derived.Test.YtmjcegbnbnbceaaLE1
import Derived.Test.YtmjcegbnbnbceaaLPMatches
namespace Go.Proofs.Ytmjcegbnbnbceaa
open Go Go.Sy
set_option linter.unusedVariables false
set_option maxRecDepth 100000
theorem up_eq {X D : Int} (hD : 0 < D) : (X + D - 1) / D = -((-X) / D) := by
  have e1 := Int.mul_ediv_add_emod (X + D - 1) D
  have e2 := Int.mul_ediv_add_emod (-X) D
  have a1 := Int.emod_nonneg (X + D - 1) (Int.ne_of_gt hD)
  have a2 := Int.emod_lt_of_pos (X + D - 1) hD
  have b1 := Int.emod_nonneg (-X) (Int.ne_of_gt hD)
  have b2 := Int.emod_lt_of_pos (-X) hD
  generalize (X + D - 1) / D = f at *
  generalize (-X) / D = g at *
  have s : D * (f + g) = D * f + D * g := Int.mul_add _ _ _
  have h1 : f + g ≤ 0 := by
    apply Decidable.byContradiction
    intro h
    have : D * 1 ≤ D * (f + g) := Int.mul_le_mul_of_nonneg_left (by omega) (by omega)
    omega
  have h2 : 0 ≤ f + g := by
    apply Decidable.byContradiction
    intro h
    have : D * (f + g) ≤ D * (-1) := Int.mul_le_mul_of_nonneg_left (by omega) (by omega)
    omega
  omega
/-- Rounding down, as the reference does it. -/
theorem m93_eq {x y : Int} (hy : 0 < y) (hx0 : -4000000000000000000 ≤ x) (hx1 : x ≤ 4000000000000000000) : m93 x y = x / y := by
  have e1 := Int.mul_ediv_add_emod x y
  have a1 := Int.emod_nonneg x (Int.ne_of_gt hy)
  have a2 := Int.emod_lt_of_pos x hy
  have t1 := Int.mul_tdiv_add_tmod x y
  have q0 : -4000000000000000000 ≤ x / y ∧ x / y ≤ 4000000000000000000 := by
    by_cases h : 0 ≤ x
    · have := Int.ediv_nonneg h (Int.le_of_lt hy)
      have := Int.ediv_le_self y h
      omega
    · have : x / y ≤ 0 := by
        apply Decidable.byContradiction
        intro k
        have : y * 1 ≤ y * (x / y) := Int.mul_le_mul_of_nonneg_left (by omega) (by omega)
        omega
      have : -(-x) ≤ x / y := by
        apply Decidable.byContradiction
        intro k
        have h1 : y * (x / y) ≤ y * (x - 1) := Int.mul_le_mul_of_nonneg_left (by omega) (by omega)
        have h2 : y * (x - 1) = y * x - y := by rw [Int.mul_sub, Int.mul_one]
        have h3 : y * x ≤ 1 * x := Int.mul_le_mul_of_nonpos_right (by omega) (by omega)
        omega
      omega
  by_cases h : 0 ≤ x
  · have h1 : x.tmod y = x % y := Int.tmod_eq_emod_of_nonneg h
    have h2 : x.tdiv y = x / y := Int.tdiv_eq_ediv_of_nonneg h
    simp only [m93, h1, h2]
    rw [decide_eq_false (by omega), cond_false]
    exact wr (by omega) (by omega)
  · have h1 : x.tmod y = -((-x) % y) := by
      have := Int.neg_tmod (-x) y
      rw [Int.neg_neg, Int.tmod_eq_emod_of_nonneg (show 0 ≤ -x by omega)] at this
      exact this
    have c1 := Int.emod_nonneg (-x) (Int.ne_of_gt hy)
    have c2 := Int.emod_lt_of_pos (-x) hy
    generalize ht : x.tdiv y = t at *
    generalize hu : (-x) % y = u at *
    generalize hq : x / y = q at *
    generalize hr : x % y = r at *
    have s : y * (t - q) = y * t - y * q := Int.mul_sub _ _ _
    simp only [m93, h1, ht]
    by_cases hz : u = 0
    · rw [decide_eq_false (by omega), cond_false]
      have : t = q := by
        have h1 : t - q ≤ 0 := by
          apply Decidable.byContradiction
          intro h
          have : y * 1 ≤ y * (t - q) := Int.mul_le_mul_of_nonneg_left (by omega) (by omega)
          omega
        have h2 : 0 ≤ t - q := by
          apply Decidable.byContradiction
          intro h
          have : y * (t - q) ≤ y * (-1) := Int.mul_le_mul_of_nonneg_left (by omega) (by omega)
          omega
        omega
      rw [this]
      exact wr (by omega) (by omega)
    · rw [decide_eq_true (by omega), cond_true]
      have : t = q + 1 := by
        have h1 : t - q ≤ 1 := by
          apply Decidable.byContradiction
          intro h
          have : y * 2 ≤ y * (t - q) := Int.mul_le_mul_of_nonneg_left (by omega) (by omega)
          omega
        have h2 : 1 ≤ t - q := by
          apply Decidable.byContradiction
          intro h
          have : y * (t - q) ≤ y * 0 := Int.mul_le_mul_of_nonneg_left (by omega) (by omega)
          omega
        omega
      rw [this, wr (n := q + 1) (by omega) (by omega), wr (by omega) (by omega)]
      omega
theorem m88_eq {x y : Int} (hy : 0 < y) (hx0 : -4000000000000000000 ≤ x) (hx1 : x ≤ 4000000000000000000) : m88 x y = (x / y, -((-x) / y)) ∧ n88 x y = true := by
  have hy' : decide (y = 0) = false := decide_eq_false (by omega)
  have w : IntKind.i64.wrap (0 - x) = -x := by rw [wr (by omega) (by omega)]; omega
  have h1 := m93_eq (x := x) hy hx0 hx1
  have h2 := m93_eq (x := -x) hy (by omega) (by omega)
  have q0 : -4000000000000000000 ≤ (-x) / y ∧ (-x) / y ≤ 4000000000000000000 := by
    have e1 := Int.mul_ediv_add_emod (-x) y
    have a1 := Int.emod_nonneg (-x) (Int.ne_of_gt hy)
    have a2 := Int.emod_lt_of_pos (-x) hy
    by_cases h : 0 ≤ -x
    · have := Int.ediv_nonneg h (Int.le_of_lt hy)
      have := Int.ediv_le_self y h
      omega
    · have h3 : (-x) / y ≤ 0 := by
        apply Decidable.byContradiction
        intro k
        have : y * 1 ≤ y * ((-x) / y) := Int.mul_le_mul_of_nonneg_left (by omega) (by omega)
        omega
      have : -x ≤ (-x) / y := by
        apply Decidable.byContradiction
        intro k
        have h1 : y * ((-x) / y) ≤ y * (-x - 1) := Int.mul_le_mul_of_nonneg_left (by omega) (by omega)
        have h2 : y * (-x - 1) = y * (-x) - y := by rw [Int.mul_sub, Int.mul_one]
        have h3 : y * (-x) ≤ 1 * (-x) := Int.mul_le_mul_of_nonpos_right (by omega) (by omega)
        omega
      omega
  constructor
  · simp only [m88, m94, w, h1, h2]
    rw [wr (by omega) (by omega)]
    simp
  · simp [n88, n93, n94, hy']
theorem m86_eq {x y : Int} (hy : 0 < y) (hy1 : y ≤ 1000000000000000000) (hx0 : 0 ≤ x) (hx1 : x ≤ 4000000000000000000) : m86 x y = (x / y, -((-x) / y)) ∧ n86 x y = true := by
  have hy' : decide (y = 0) = false := decide_eq_false (by omega)
  have q1 := Int.ediv_nonneg hx0 (Int.le_of_lt hy)
  have q2 := Int.ediv_le_self y hx0
  have r1 := Int.ediv_nonneg (show 0 ≤ x + y - 1 by omega) (Int.le_of_lt hy)
  have r2 := Int.ediv_le_self y (show 0 ≤ x + y - 1 by omega)
  constructor
  · simp only [m86]
    rw [wr (n := x + y) (by omega) (by omega), wr (n := x + y - 1) (by omega) (by omega), Int.tdiv_eq_ediv_of_nonneg hx0, Int.tdiv_eq_ediv_of_nonneg (by omega), wr (n := x / y) (by omega) (by omega), wr (n := (x + y - 1) / y) (by omega) (by omega), up_eq hy]
  · simp [n86, hy']
theorem e83s {a b : Int} (h : m83 a b = 0) : (0 ≤ a ∧ a ≤ 1000) ∧ (0 ≤ b ∧ b ≤ 1000) ∧ a + b ≤ 1000 := by
  have h1 := e83 h
  refine ⟨h1.1, h1.2, ?_⟩
  have k : ∀ u : Int, 0 ≤ u → u ≤ 1000 → m18 u 0 1000 = true := fun u a b => by simp [m18, a, b]
  simp only [m83, k a h1.1.1 h1.1.2, k b h1.2.1 h1.2.2] at h
  rw [wr (by omega) (by omega)] at h
  by_cases hs : 1000 < a + b
  · simp [hs] at h
  · omega
end Go.Proofs.Ytmjcegbnbnbceaa

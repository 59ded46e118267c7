/-
  Cosines of angles: program and reference alike, their bounds. Conditions: none.
-/
import Derived.Test.YtlaogoojkfjgoaaC1
import Derived.Test.YtlaogoojkfjgoaaC2
import Derived.Test.YtlaogoojkfjgoaaC3
import Derived.Test.YtlaogoojkfjgoaaC4
import Derived.Test.YtlaogoojkfjgoaaC5
import Derived.Test.YtlaogoojkfjgoaaCFCosines
import Derived.Test.YtlaogoojkfjgoaaCPLoop
import Derived.Test.YtlaogoojkfjgoaaCPAng
import Derived.Test.YtlaogoojkfjgoaaCPCirc
import Derived.Test.YtlaogoojkfjgoaaCPRay
namespace Go.Proofs.Ytlaogoojkfjgoaa
open Go Go.Sy
set_option linter.unusedVariables false
set_option linter.unusedSimpArgs false
set_option maxRecDepth 100000
/-- The cosine in the quarter q, with the ray r. -/
noncomputable def quad (q : Int) (r : Int × Int × Int × Int) : Int × Int :=
  if q = 0 then (r.1, r.2.1) else if q = 1 then (-r.2.2.2, -r.2.2.1) else if q = 2 then (-r.2.1, -r.1) else (r.2.2.1, r.2.2.2)
theorem quad0 (r : Int × Int × Int × Int) : quad 0 r = (r.1, r.2.1) := rfl
theorem quad1 (r : Int × Int × Int × Int) : quad 1 r = (-r.2.2.2, -r.2.2.1) := rfl
theorem quad2 (r : Int × Int × Int × Int) : quad 2 r = (-r.2.1, -r.1) := rfl
theorem quad3 (r : Int × Int × Int × Int) : quad 3 r = (r.2.2.1, r.2.2.2) := rfl
theorem m101_eq {x y : Int} (hx0 : 0 ≤ x) (hx1 : x ≤ 100000000) (hy0 : 0 ≤ y) (hy1 : y ≤ 100000000) : m101 x y = (-y, -x) := by
  simp only [m101]
  rw [wr (n := 0 - y) (by omega) (by omega), wr (n := 0 - x) (by omega) (by omega)]
  refine Prod.ext ?_ ?_ <;> simp only <;> omega
theorem m134_m101 (x y : Int) : m134 x y = m101 x y := rfl
theorem m33_quad {q b : Int} (hq0 : 0 ≤ q) (hq1 : q ≤ 3) (hb0 : 0 ≤ b) (hb1 : b < 1024) : n33 (1024 * q + b) = true ∧ m33 (1024 * q + b) = quad q (m100 b) := by
  have R := ray_ok hb0 hb1
  have e1 : (1024 * q + b).tmod 1024 = b := by rw [Int.tmod_eq_emod_of_nonneg (by omega)]; omega
  have e2 : (1024 * q + b).tdiv 1024 = q := by rw [Int.tdiv_eq_ediv_of_nonneg (by omega)]; omega
  have e3 : IntKind.i64.wrap q = q := wr (by omega) (by omega)
  constructor
  · simp only [n33, e1, R.n100]; rfl
  · have x1 := m101_eq (x := (m100 b).2.2.1) (y := (m100 b).2.2.2) R.s0 (by have := R.s1; have := R.s2; omega) (by have := R.s0; have := R.s1; omega) R.s2
    have x2 := m101_eq (x := (m100 b).1) (y := (m100 b).2.1) R.c0 (by have := R.c1; have := R.c2; omega) (by have := R.c0; have := R.c1; omega) R.c2
    simp only [m33, e1, e2, e3]
    rcases (show q = 0 ∨ q = 1 ∨ q = 2 ∨ q = 3 by omega) with rfl | rfl | rfl | rfl
    · rfl
    · rw [x1]; rfl
    · rw [x2]; rfl
    · rfl
theorem m99_quad {q b : Int} (hq0 : 0 ≤ q) (hq1 : q ≤ 4) (hb0 : 0 ≤ b) (hb1 : b < 1024) : n99 m98 (1024 * q + b) = true ∧ m99 m98 (1024 * q + b) = quad (q % 4) (m100 b) := by
  have R := ray_ok hb0 hb1
  have e1 : (1024 * q + b).tmod 1024 = b := by rw [Int.tmod_eq_emod_of_nonneg (by omega)]; omega
  have e2 : (1024 * q + b).tdiv 1024 = q := by rw [Int.tdiv_eq_ediv_of_nonneg (by omega)]; omega
  have e3 : IntKind.i64.wrap q = q := wr (by omega) (by omega)
  have e4 : q.tmod 4 = q % 4 := Int.tmod_eq_emod_of_nonneg hq0
  constructor
  · simp only [n99, e1, R.n133]; rfl
  · have x1 := m101_eq (x := (m100 b).2.2.1) (y := (m100 b).2.2.2) R.s0 (by have := R.s1; have := R.s2; omega) (by have := R.s0; have := R.s1; omega) R.s2
    have x2 := m101_eq (x := (m100 b).1) (y := (m100 b).2.1) R.c0 (by have := R.c1; have := R.c2; omega) (by have := R.c0; have := R.c1; omega) R.c2
    simp only [m99, e1, e2, e3, e4, R.m133, m134_m101]
    rcases (show q % 4 = 0 ∨ q % 4 = 1 ∨ q % 4 = 2 ∨ q % 4 = 3 by omega) with h | h | h | h
    · rw [h]; rfl
    · rw [h, x1]; rfl
    · rw [h, x2]; rfl
    · rw [h]; rfl
theorem quad_bd {q : Int} {b : Int} (hb0 : 0 ≤ b) (hb1 : b < 1024) : -100000000 ≤ (quad q (m100 b)).1 ∧ (quad q (m100 b)).1 ≤ (quad q (m100 b)).2 ∧ (quad q (m100 b)).2 ≤ 100000000 := by
  have R := ray_ok hb0 hb1
  have a1 := R.c0
  have a2 := R.c1
  have a3 := R.c2
  have a4 := R.s0
  have a5 := R.s1
  have a6 := R.s2
  unfold quad
  split
  · simp only; omega
  · split
    · simp only; omega
    · split <;> simp only <;> omega
end Go.Proofs.Ytlaogoojkfjgoaa

/-
  Cosines of angles: program and reference alike, their bounds. Conditions: none.
-/
import Derived.Test.YtbhldggbjjailaaA1
import Derived.Test.YtbhldggbjjailaaA2
import Derived.Test.YtbhldggbjjailaaA3
import Derived.Test.YtbhldggbjjailaaA4
import Derived.Test.YtbhldggbjjailaaA5
import Derived.Test.YtbhldggbjjailaaAFDiveWindows
import Derived.Test.YtbhldggbjjailaaAPApt
import Derived.Test.YtbhldggbjjailaaAPLoop
import Derived.Test.YtbhldggbjjailaaAPAng
import Derived.Test.YtbhldggbjjailaaAPCheckW
import Derived.Test.YtbhldggbjjailaaAPFits
import Derived.Test.YtbhldggbjjailaaAPCirc
import Derived.Test.YtbhldggbjjailaaAPRay
namespace Go.Proofs.Ytbhldggbjjailaa
open Go Go.Sy
set_option linter.unusedVariables false
set_option linter.unusedSimpArgs false
set_option maxRecDepth 100000
/-- The cosine in the quarter q, with the ray r. -/
noncomputable def quad (q : Int) (r : Int × Int × Int × Int) : Int × Int :=
  if q = 0 then (r.1, r.2.1) else if q = 1 then (-r.2.2.2, -r.2.2.1) else if q = 2 then (-r.2.1, -r.1) else (r.2.2.1, r.2.2.2)
theorem m121_eq {x y : Int} (hx0 : 0 ≤ x) (hx1 : x ≤ 100000000) (hy0 : 0 ≤ y) (hy1 : y ≤ 100000000) : m121 x y = (-y, -x) := by
  simp only [m121]
  rw [wr (n := 0 - y) (by omega) (by omega), wr (n := 0 - x) (by omega) (by omega)]
  refine Prod.ext ?_ ?_ <;> simp only <;> omega
theorem m139_m101 (x y : Int) : m139 x y = m121 x y := rfl
theorem m49_quad {q b : Int} (hq0 : 0 ≤ q) (hq1 : q ≤ 3) (hb0 : 0 ≤ b) (hb1 : b < 1024) : n49 (1024 * q + b) = true ∧ m49 (1024 * q + b) = quad q (m120 b) := by
  have R := ray_ok hb0 hb1
  have e1 : (1024 * q + b).tmod 1024 = b := by rw [Int.tmod_eq_emod_of_nonneg (by omega)]; omega
  have e2 : (1024 * q + b).tdiv 1024 = q := by rw [Int.tdiv_eq_ediv_of_nonneg (by omega)]; omega
  have e3 : IntKind.i64.wrap q = q := wr (by omega) (by omega)
  constructor
  · simp only [n49, e1, R.n120]; rfl
  · have x1 := m121_eq (x := (m120 b).2.2.1) (y := (m120 b).2.2.2) R.s0 (by have := R.s1; have := R.s2; omega) (by have := R.s0; have := R.s1; omega) R.s2
    have x2 := m121_eq (x := (m120 b).1) (y := (m120 b).2.1) R.c0 (by have := R.c1; have := R.c2; omega) (by have := R.c0; have := R.c1; omega) R.c2
    simp only [m49, e1, e2, e3]
    rcases (show q = 0 ∨ q = 1 ∨ q = 2 ∨ q = 3 by omega) with rfl | rfl | rfl | rfl
    · rfl
    · rw [x1]; rfl
    · rw [x2]; rfl
    · rfl
theorem m119_quad {q b : Int} (hq0 : 0 ≤ q) (hq1 : q ≤ 4) (hb0 : 0 ≤ b) (hb1 : b < 1024) : n119 m118 (1024 * q + b) = true ∧ m119 m118 (1024 * q + b) = quad (q % 4) (m120 b) := by
  have R := ray_ok hb0 hb1
  have e1 : (1024 * q + b).tmod 1024 = b := by rw [Int.tmod_eq_emod_of_nonneg (by omega)]; omega
  have e2 : (1024 * q + b).tdiv 1024 = q := by rw [Int.tdiv_eq_ediv_of_nonneg (by omega)]; omega
  have e3 : IntKind.i64.wrap q = q := wr (by omega) (by omega)
  have e4 : q.tmod 4 = q % 4 := Int.tmod_eq_emod_of_nonneg hq0
  constructor
  · simp only [n119, e1, R.n138]; rfl
  · have x1 := m121_eq (x := (m120 b).2.2.1) (y := (m120 b).2.2.2) R.s0 (by have := R.s1; have := R.s2; omega) (by have := R.s0; have := R.s1; omega) R.s2
    have x2 := m121_eq (x := (m120 b).1) (y := (m120 b).2.1) R.c0 (by have := R.c1; have := R.c2; omega) (by have := R.c0; have := R.c1; omega) R.c2
    simp only [m119, e1, e2, e3, e4, R.m138, m139_m101]
    rcases (show q % 4 = 0 ∨ q % 4 = 1 ∨ q % 4 = 2 ∨ q % 4 = 3 by omega) with h | h | h | h
    · rw [h]; rfl
    · rw [h, x1]; rfl
    · rw [h, x2]; rfl
    · rw [h]; rfl
theorem quad_bd {q : Int} {b : Int} (hb0 : 0 ≤ b) (hb1 : b < 1024) : -100000000 ≤ (quad q (m120 b)).1 ∧ (quad q (m120 b)).1 ≤ (quad q (m120 b)).2 ∧ (quad q (m120 b)).2 ≤ 100000000 := by
  have R := ray_ok hb0 hb1
  have a1 := R.c0
  have a2 := R.c1
  have a3 := R.c2
  have a4 := R.s0
  have a5 := R.s1
  have a6 := R.s2
  unfold quad
  split
  · simp only; omega
  · split
    · simp only; omega
    · split <;> simp only <;> omega
structure CosOk (a : Int) : Prop where
  n119 : n119 m118 a = true
  n49 : n49 (a.tmod 4096) = true
  eq : m119 m118 a = m49 (a.tmod 4096)
  b0 : -100000000 ≤ (m119 m118 a).1
  b1 : (m119 m118 a).1 ≤ (m119 m118 a).2
  b2 : (m119 m118 a).2 ≤ 100000000
theorem cos_ok {a : Int} (h0 : 0 ≤ a) (h1 : a ≤ 4096) : CosOk a := by
  obtain ⟨q, b, rfl, hq0, hq1, hb0, hb1⟩ : ∃ q b : Int, a = 1024 * q + b ∧ 0 ≤ q ∧ q ≤ 4 ∧ 0 ≤ b ∧ b < 1024 := ⟨a / 1024, a % 1024, by omega, by omega, by omega, by omega, by omega⟩
  obtain ⟨x1, x2⟩ := m119_quad hq0 hq1 hb0 hb1
  have e : (1024 * q + b).tmod 4096 = 1024 * (q % 4) + b := by rw [Int.tmod_eq_emod_of_nonneg h0]; omega
  obtain ⟨y1, y2⟩ := m49_quad (q := q % 4) (by omega) (by omega) hb0 hb1
  have B := quad_bd (q := q % 4) hb0 hb1
  refine ⟨x1, by rw [e]; exact y1, by rw [e, x2, y2], ?_, ?_, ?_⟩ <;> rw [x2] <;> omega
end Go.Proofs.Ytbhldggbjjailaa

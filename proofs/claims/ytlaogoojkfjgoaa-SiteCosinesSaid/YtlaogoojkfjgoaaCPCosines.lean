/-
  The plain law of 'SiteCosines': the law's model is true, and its need. Conditions: none.
-/
import Derived.Test.YtlaogoojkfjgoaaC1
import Derived.Test.YtlaogoojkfjgoaaC2
import Derived.Test.YtlaogoojkfjgoaaC3
import Derived.Test.YtlaogoojkfjgoaaC4
import Derived.Test.YtlaogoojkfjgoaaC5
import Derived.KernelRfl
import Derived.Test.YtlaogoojkfjgoaaCFCosines
import Derived.Test.YtlaogoojkfjgoaaCPLoop
import Derived.Test.YtlaogoojkfjgoaaCPAng
import Derived.Test.YtlaogoojkfjgoaaCPCirc
import Derived.Test.YtlaogoojkfjgoaaCPRay
import Derived.Test.YtlaogoojkfjgoaaCPCos
import Derived.Test.YtlaogoojkfjgoaaCE17
namespace Go.Proofs.Ytlaogoojkfjgoaa
open Go Go.Sy
set_option linter.unusedVariables false
set_option linter.unusedSimpArgs false
set_option maxRecDepth 100000
theorem mm_iff {a b c d : Int} : imax a b ≤ imin c d ↔ a ≤ c ∧ a ≤ d ∧ b ≤ c ∧ b ≤ d := by
  unfold imax imin
  split <;> split <;> omega
theorem sq_bd {x : Int} (h0 : 0 ≤ x) (h1 : x ≤ 100000000) : 0 ≤ x * x ∧ x * x ≤ 10000000000000000 := by
  have a := Int.mul_nonneg h0 h0
  have b := Int.mul_le_mul h1 h1 h0 (by omega)
  omega
theorem sq_mono {x y : Int} (h0 : 0 ≤ x) (h1 : x ≤ y) : x * x ≤ y * y := Int.mul_le_mul h1 h1 h0 (by omega)
theorem m35_pos {x y : Int} (h0 : 0 ≤ x) (h1 : x ≤ y) (h2 : y ≤ 100000000) : m35 x y = x * x := by
  have a := sq_bd h0 (by omega)
  have b := sq_bd (x := y) (by omega) h2
  have c := sq_mono h0 h1
  simp only [m35]
  rw [wr (n := x * x) (by omega) (by omega), wr (n := y * y) (by omega) (by omega)]
  by_cases h : x ≤ 0
  · obtain rfl : x = 0 := by omega
    rw [decide_eq_true (Int.le_refl 0), decide_eq_true h1]; rfl
  · rw [decide_eq_false h]
    simp only [cond_false]
    unfold imin
    rw [if_neg (by omega)]
theorem m35_neg {x y : Int} (h0 : 0 ≤ x) (h1 : x ≤ y) (h2 : y ≤ 100000000) : m35 (-y) (-x) = x * x := by
  have a := sq_bd h0 (by omega)
  have b := sq_bd (x := y) (by omega) h2
  have c := sq_mono h0 h1
  simp only [m35, Int.neg_mul_neg]
  rw [wr (n := x * x) (by omega) (by omega), wr (n := y * y) (by omega) (by omega), decide_eq_true (show -y ≤ 0 by omega)]
  by_cases h : x ≤ 0
  · obtain rfl : x = 0 := by omega
    rfl
  · rw [decide_eq_false (show ¬ 0 ≤ -x by omega)]
    simp only [cond_true, cond_false]
    unfold imin
    split <;> omega
theorem m36_pos {x y : Int} (h0 : 0 ≤ x) (h1 : x ≤ y) (h2 : y ≤ 100000000) : m36 x y = y * y := by
  have a := sq_bd h0 (by omega)
  have b := sq_bd (x := y) (by omega) h2
  have c := sq_mono h0 h1
  simp only [m36]
  rw [wr (n := x * x) (by omega) (by omega), wr (n := y * y) (by omega) (by omega)]
  unfold imax; split <;> omega
theorem m36_neg {x y : Int} (h0 : 0 ≤ x) (h1 : x ≤ y) (h2 : y ≤ 100000000) : m36 (-y) (-x) = y * y := by
  have a := sq_bd h0 (by omega)
  have b := sq_bd (x := y) (by omega) h2
  have c := sq_mono h0 h1
  simp only [m36, Int.neg_mul_neg]
  rw [wr (n := x * x) (by omega) (by omega), wr (n := y * y) (by omega) (by omega)]
  unfold imax; split <;> omega
theorem m34_eq {x : Int} (h0 : -4096 ≤ x) (h1 : x ≤ 4096) : n34 x 4096 = true ∧ m34 x 4096 = x % 4096 := by
  constructor
  · simp only [n34]; cases decide (x.tmod 4096 < 0) <;> rfl
  · simp only [m34]
    by_cases h : 0 ≤ x
    · rw [Int.tmod_eq_emod_of_nonneg h, decide_eq_false (by omega), cond_false]
    · have e : x.tmod 4096 = -((-x) % 4096) := by
        have := Int.neg_tmod (-x) 4096
        rw [Int.neg_neg, Int.tmod_eq_emod_of_nonneg (show 0 ≤ -x by omega)] at this
        exact this
      rw [e]
      by_cases hz : (-x) % 4096 = 0
      · rw [decide_eq_false (by omega), cond_false]; omega
      · rw [decide_eq_true (by omega), cond_true, wr (by omega) (by omega)]; omega
theorem m32_eq {q b : Int} (hq0 : 0 ≤ q) (hq1 : q ≤ 3) (hb0 : 0 ≤ b) (hb1 : b < 1024) : n32 (1024 * q + b) = true ∧ m32 (1024 * q + b) = ((quad q (m100 b)).1, (quad q (m100 b)).2, 0) := by
  obtain ⟨x1, x2⟩ := m99_quad hq0 (show q ≤ 4 by omega) hb0 hb1
  rw [show q % 4 = q by omega] at x2
  have r : m96 (1024 * q + b) 0 4095 = true := m29_iff.2 ⟨by omega, by omega⟩
  constructor
  · simp only [n32, r, n98_val, x1, cond_true, cond_false]; rfl
  · simp only [m32, r, x2, cond_true, cond_false]
theorem m100_zero : m100 0 = (100000000, 100000000, 0, 0) := by kernel_rfl
/-- What the law asks of the three cosines. -/
theorem ask {q b : Int} (hq0 : 0 ≤ q) (hq1 : q ≤ 3) (hb0 : 0 ≤ b) (hb1 : b < 1024) :
    (quad q (m100 b)).2 - (quad q (m100 b)).1 ≤ 1000 ∧ m35 (quad q (m100 b)).1 (quad q (m100 b)).2 + m35 (quad ((q + 3) % 4) (m100 b)).1 (quad ((q + 3) % 4) (m100 b)).2 ≤ 10000000000000000 ∧ 0 ≤ m35 (quad q (m100 b)).1 (quad q (m100 b)).2 + m35 (quad ((q + 3) % 4) (m100 b)).1 (quad ((q + 3) % 4) (m100 b)).2 ∧
    10000000000000000 ≤ m36 (quad q (m100 b)).1 (quad q (m100 b)).2 + m36 (quad ((q + 3) % 4) (m100 b)).1 (quad ((q + 3) % 4) (m100 b)).2 ∧ m36 (quad q (m100 b)).1 (quad q (m100 b)).2 + m36 (quad ((q + 3) % 4) (m100 b)).1 (quad ((q + 3) % 4) (m100 b)).2 ≤ 20000000000000000 := by
  have R := ray_ok hb0 hb1
  have c0 := R.c0
  have c1 := R.c1
  have c2 := R.c2
  have s0 := R.s0
  have s1 := R.s1
  have s2 := R.s2
  have a1 := m35_pos c0 c1 c2
  have a2 := m35_neg c0 c1 c2
  have a3 := m35_pos s0 s1 s2
  have a4 := m35_neg s0 s1 s2
  have b1 := m36_pos c0 c1 c2
  have b2 := m36_neg c0 c1 c2
  have b3 := m36_pos s0 s1 s2
  have b4 := m36_neg s0 s1 s2
  have l := R.lo
  have h := R.hi
  have wc := R.wc
  have ws := R.ws
  have p1 := sq_bd c0 (by omega)
  have p2 := sq_bd s0 (by omega)
  have p3 := sq_bd (x := (m100 b).2.1) (by omega) c2
  have p4 := sq_bd (x := (m100 b).2.2.2) (by omega) s2
  rcases (show q = 0 ∨ q = 1 ∨ q = 2 ∨ q = 3 by omega) with rfl | rfl | rfl | rfl
  · rw [show ((0 : Int) + 3) % 4 = 3 by decide, quad0, quad3]; simp only [a1, a3, b1, b3]; omega
  · rw [show ((1 : Int) + 3) % 4 = 0 by decide, quad1, quad0]; simp only [a4, a1, b4, b1]; omega
  · rw [show ((2 : Int) + 3) % 4 = 1 by decide, quad2, quad1]; simp only [a2, a4, b2, b4]; omega
  · rw [show ((3 : Int) + 3) % 4 = 2 by decide, quad3, quad2]; simp only [a3, a2, b3, b2]; omega
theorem ask2 {q b : Int} (hq0 : 0 ≤ q) (hq1 : q ≤ 3) (hb0 : 0 ≤ b) (hb1 : b < 1024) :
    n32 ((-(1024 * q + b)) % 4096) = true ∧ ∃ T : Int × Int, m32 ((-(1024 * q + b)) % 4096) = (T.1, T.2, 0) ∧ imax (quad q (m100 b)).1 T.1 ≤ imin (quad q (m100 b)).2 T.2 := by
  by_cases hb : b = 0
  · subst hb
    rw [show (-(1024 * q + 0)) % 4096 = 1024 * ((4 - q) % 4) + 0 by omega]
    obtain ⟨x1, x2⟩ := m32_eq (q := (4 - q) % 4) (b := 0) (by omega) (by omega) (by omega) (by omega)
    refine ⟨x1, quad ((4 - q) % 4) (m100 0), x2, ?_⟩
    rw [mm_iff, m100_zero]
    rcases (show q = 0 ∨ q = 1 ∨ q = 2 ∨ q = 3 by omega) with rfl | rfl | rfl | rfl <;> decide
  · have R := ray_ok hb0 hb1
    rw [show (-(1024 * q + b)) % 4096 = 1024 * (3 - q) + (1024 - b) by omega]
    obtain ⟨x1, x2⟩ := m32_eq (q := 3 - q) (b := 1024 - b) (by omega) (by omega) (by omega) (by omega)
    refine ⟨x1, quad (3 - q) (m100 (1024 - b)), x2, ?_⟩
    have f1 := mm_iff.1 (R.fc hb)
    have f2 := mm_iff.1 (R.fs hb)
    rw [mm_iff]
    rcases (show q = 0 ∨ q = 1 ∨ q = 2 ∨ q = 3 by omega) with rfl | rfl | rfl | rfl
    · rw [show (3 : Int) - 0 = 3 by decide, quad0, quad3]; simp only; omega
    · rw [show (3 : Int) - 1 = 2 by decide, quad1, quad2]; simp only; omega
    · rw [show (3 : Int) - 2 = 1 by decide, quad2, quad1]; simp only; omega
    · rw [show (3 : Int) - 3 = 0 by decide, quad3, quad0]; simp only; omega
theorem lawCosines (a : Int) : n7 a = true ∧ m7 a = true := by
  have e17 : m17 = true := rfl
  cases ha : m29 a 0 4095 with
  | false =>
    have r : m96 a 0 4095 = false := ha
    have x1 : n32 a = true := by simp only [n32, r, cond_true, cond_false]
    have x2 : m32 a = (0, 0, 2) := by simp only [m32, r, cond_true, cond_false]
    constructor
    · simp only [n7, n17_val, e17, x1, ha, cond_true, cond_false]; rfl
    · simp only [m7, e17, x2, ha, cond_true, cond_false]; rfl
  | true =>
    have ⟨a0, a1⟩ := m29_iff.1 ha
    obtain ⟨q, b, rfl, hq0, hq1, hb0, hb1⟩ : ∃ q b : Int, a = 1024 * q + b ∧ 0 ≤ q ∧ q ≤ 3 ∧ 0 ≤ b ∧ b < 1024 := ⟨a / 1024, a % 1024, by omega, by omega, by omega, by omega, by omega⟩
    obtain ⟨x1, x2⟩ := m32_eq hq0 hq1 hb0 hb1
    obtain ⟨y1, y2⟩ := m33_quad hq0 hq1 hb0 hb1
    have w1 : IntKind.i64.wrap (1024 * q + b - 1024) = 1024 * q + b - 1024 := wr (by omega) (by omega)
    have w2 : IntKind.i64.wrap (0 - (1024 * q + b)) = -(1024 * q + b) := by rw [wr (by omega) (by omega)]; omega
    obtain ⟨u1, u2⟩ := m34_eq (x := 1024 * q + b - 1024) (by omega) (by omega)
    obtain ⟨v1, v2⟩ := m34_eq (x := -(1024 * q + b)) (by omega) (by omega)
    have u3 : (1024 * q + b - 1024) % 4096 = 1024 * ((q + 3) % 4) + b := by omega
    obtain ⟨s1, s2⟩ := m32_eq (q := (q + 3) % 4) (by omega) (by omega) hb0 hb1
    obtain ⟨t1, T, t2, t3⟩ := ask2 hq0 hq1 hb0 hb1
    obtain ⟨k1, k2, k3, k4, k5⟩ := ask hq0 hq1 hb0 hb1
    have B := quad_bd (q := q) hb0 hb1
    have C := quad_bd (q := (q + 3) % 4) hb0 hb1
    have c1 : m29 (quad ((q + 3) % 4) (m100 b)).1 (-100000000) (quad ((q + 3) % 4) (m100 b)).2 = true := m29_iff.2 ⟨C.1, C.2.1⟩
    have d1 : decide ((quad q (m100 b)).2 < (quad q (m100 b)).1) = false := decide_eq_false (by omega)
    have d2 : decide ((1000 : Int) < IntKind.i64.wrap ((quad q (m100 b)).2 - (quad q (m100 b)).1)) = false := by rw [wr (by omega) (by omega)]; exact decide_eq_false (by omega)
    constructor
    · simp only [n7, n17_val, e17, x1, x2, y1, y2, ha, w1, w2, u1, u2, u3, v1, v2, s1, t1, d1, d2, decide_true, cond_true, cond_false]; rfl
    · simp only [m7, e17, x2, y2, ha, w1, w2, u2, u3, v2, s2, t2, c1, d1, d2, decide_true, cond_true, cond_false]
      rw [wr (n := m35 (quad q (m100 b)).1 (quad q (m100 b)).2 + m35 (quad ((q + 3) % 4) (m100 b)).1 (quad ((q + 3) % 4) (m100 b)).2) (by omega) (by omega), wr (n := m36 (quad q (m100 b)).1 (quad q (m100 b)).2 + m36 (quad ((q + 3) % 4) (m100 b)).1 (quad ((q + 3) % 4) (m100 b)).2) (by omega) (by omega),
        decide_eq_true C.2.2, decide_eq_true k2, decide_eq_true k4, decide_eq_true t3]
      rfl
end Go.Proofs.Ytlaogoojkfjgoaa

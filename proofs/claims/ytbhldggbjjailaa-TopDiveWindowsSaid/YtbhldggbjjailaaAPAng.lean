/-
  Angles of waves: program and reference alike. Conditions: none.
-/
import Derived.Test.YtbhldggbjjailaaA1
import Derived.Test.YtbhldggbjjailaaA2
import Derived.Test.YtbhldggbjjailaaA3
import Derived.Test.YtbhldggbjjailaaA4
import Derived.Test.YtbhldggbjjailaaA5
import Derived.Test.YtbhldggbjjailaaAFDiveWindows
import Derived.Test.YtbhldggbjjailaaAPApt
import Derived.Test.YtbhldggbjjailaaAPLoop
namespace Go.Proofs.Ytbhldggbjjailaa
open Go Go.Sy
set_option linter.unusedVariables false
set_option linter.unusedSimpArgs false
set_option maxRecDepth 100000
theorem wr {n : Int} (h0 : -9223372036854775808 ≤ n) (h1 : n ≤ 9223372036854775807) : IntKind.i64.wrap n = n := wrp h0 h1
theorem m24_iff {x a b : Int} : m24 x a b = true ↔ a ≤ x ∧ x ≤ b := by
  simp only [m24]
  by_cases h1 : a ≤ x <;> by_cases h2 : x ≤ b <;> simp [h1, h2]
theorem m24_f {x a b : Int} (h : ¬ (a ≤ x ∧ x ≤ b)) : m24 x a b = false := by
  cases hh : m24 x a b with
  | false => rfl
  | true => exact absurd (m24_iff.1 hh) h
theorem m95_m29 (x a b : Int) : m95 x a b = m24 x a b := rfl
theorem m39_iff {x : Int} : m39 x = true ↔ 0 ≤ x ∧ x ≤ 1000000 := by
  simp only [m39]; exact m24_iff
theorem m93_m22 (x : Int) : m93 x = m39 x := rfl
/-- The quotient lies between. -/
theorem div_bd {x y : Int} (hy : 0 < y) : (0 ≤ x → 0 ≤ x / y ∧ x / y ≤ x) ∧ (x < 0 → x ≤ x / y ∧ x / y < 0) := by
  have e1 := Int.mul_ediv_add_emod x y
  have a1 := Int.emod_nonneg x (Int.ne_of_gt hy)
  have a2 := Int.emod_lt_of_pos x hy
  refine ⟨fun h => ⟨Int.ediv_nonneg h (Int.le_of_lt hy), Int.ediv_le_self y h⟩, fun h => ?_⟩
  have hn : x / y < 0 := Int.ediv_neg_of_neg_of_pos h hy
  refine ⟨?_, hn⟩
  apply Decidable.byContradiction
  intro k
  have h1 : y * (x / y + 1) ≤ 1 * (x / y + 1) := Int.mul_le_mul_of_nonpos_right (by omega) (by omega)
  have h2 : y * (x / y + 1) = y * (x / y) + y := by rw [Int.mul_add, Int.mul_one]
  omega
/-- A quotient by what is above it and below. -/
theorem div_eq {x y q : Int} (hy : 0 < y) (h1 : y * q ≤ x) (h2 : x < y * q + y) : x / y = q := by
  have h3 : x = (x - y * q) + y * q := by omega
  rw [h3, Int.add_mul_ediv_left _ _ (Int.ne_of_gt hy), Int.ediv_eq_zero_of_lt (by omega) (by omega), Int.zero_add]
theorem m104_eq {x y : Int} (hy : 0 < y) (hx0 : -4000000000000000000 ≤ x) (hx1 : x ≤ 4000000000000000000) : m104 x y = x / y := by
  obtain ⟨b1, b2⟩ := div_bd (x := x) hy
  by_cases h : 0 ≤ x
  · have h1 : x.tmod y = x % y := Int.tmod_eq_emod_of_nonneg h
    have h2 : x.tdiv y = x / y := Int.tdiv_eq_ediv_of_nonneg h
    have a1 := Int.emod_nonneg x (Int.ne_of_gt hy)
    have := b1 h
    simp only [m104, h1, h2]
    rw [decide_eq_false (by omega), cond_false]
    exact wr (by omega) (by omega)
  · have b := b2 (by omega)
    have h1 : x.tmod y = -((-x) % y) := by
      have := Int.neg_tmod (-x) y
      rw [Int.neg_neg, Int.tmod_eq_emod_of_nonneg (show 0 ≤ -x by omega)] at this
      exact this
    have h2 : x.tdiv y = -((-x) / y) := by
      have := Int.neg_tdiv (-x) y
      rw [Int.neg_neg, Int.tdiv_eq_ediv_of_nonneg (show 0 ≤ -x by omega)] at this
      exact this
    have c0 := Int.mul_ediv_add_emod (-x) y
    have c1 := Int.emod_nonneg (-x) (Int.ne_of_gt hy)
    have c2 := Int.emod_lt_of_pos (-x) hy
    have c4 := (div_bd (x := -x) hy).1 (by omega)
    simp only [m104, h1, h2]
    by_cases hz : (-x) % y = 0
    · rw [decide_eq_false (by omega), cond_false, wr (by omega) (by omega)]
      exact (div_eq hy (by rw [Int.mul_neg]; omega) (by rw [Int.mul_neg]; omega)).symm
    · rw [decide_eq_true (by omega), cond_true, wr (n := -(-x / y)) (by omega) (by omega), wr (by omega) (by omega)]
      exact (div_eq hy (by rw [Int.mul_sub, Int.mul_neg, Int.mul_one]; omega) (by rw [Int.mul_sub, Int.mul_neg, Int.mul_one]; omega)).symm
theorem n104_t {x y : Int} (hy : 0 < y) : n104 x y = true := by
  simp only [n104]
  rw [decide_eq_false (show ¬ y = 0 by omega)]; rfl
theorem m105_eq {x y : Int} (hy : 0 < y) (hx0 : -4000000000000000000 ≤ x) (hx1 : x ≤ 4000000000000000000) : m105 x y = -((-x) / y) := by
  obtain ⟨b1, b2⟩ := div_bd (x := -x) hy
  simp only [m105]
  rw [wr (n := 0 - x) (by omega) (by omega), show (0 - x) = -x by omega, m104_eq hy (by omega) (by omega), wr (by omega) (by omega)]
  omega
theorem n105_t {x y : Int} (hy : 0 < y) : n105 x y = true := by
  simp only [n105, n104_t hy]; rfl
theorem m131_eq {x y : Int} (hy : 0 < y) (hy1 : y ≤ 4000000000000000000) (hx0 : -4000000000000000000 ≤ x) (hx1 : x ≤ 4000000000000000000) : m131 x y = x / y := by
  simp only [m131]
  by_cases h : x < 0
  · rw [decide_eq_true h, cond_true, wr (n := 0 - x) (by omega) (by omega), wr (n := 0 - x + y) (by omega) (by omega), wr (n := 0 - x + y - 1) (by omega) (by omega), Int.tdiv_eq_ediv_of_nonneg (by omega)]
    have c0 := Int.mul_ediv_add_emod (0 - x + y - 1) y
    have c1 := Int.emod_nonneg (0 - x + y - 1) (Int.ne_of_gt hy)
    have c2 := Int.emod_lt_of_pos (0 - x + y - 1) hy
    have c4 := (div_bd (x := 0 - x + y - 1) hy).1 (by omega)
    rw [wr (n := (0 - x + y - 1) / y) (by omega) (by omega), wr (by omega) (by omega)]
    exact (div_eq hy (by rw [Int.mul_sub, Int.mul_zero]; omega) (by rw [Int.mul_sub, Int.mul_zero]; omega)).symm
  · have := (div_bd (x := x) hy).1 (by omega)
    rw [decide_eq_false h, cond_false, Int.tdiv_eq_ediv_of_nonneg (by omega), wr (by omega) (by omega)]
theorem n131_t {x y : Int} (hy : 0 < y) : n131 x y = true := by
  simp only [n131]
  rw [decide_eq_false (show ¬ y = 0 by omega)]
  cases decide (x < 0) <;> rfl
theorem m132_eq {x y : Int} (hy : 0 < y) (hy1 : y ≤ 4000000000000000000) (hx0 : -4000000000000000000 ≤ x) (hx1 : x ≤ 4000000000000000000) : m132 x y = -((-x) / y) := by
  obtain ⟨b1, b2⟩ := div_bd (x := -x) hy
  simp only [m132]
  rw [wr (n := 0 - x) (by omega) (by omega), show (0 - x) = -x by omega, m131_eq hy hy1 (by omega) (by omega), wr (by omega) (by omega)]
  omega
theorem n132_t {x y : Int} (hy : 0 < y) : n132 x y = true := by
  simp only [n132, n131_t hy]; rfl
structure Wav (h p f : Int) : Prop where
  h0 : 0 ≤ h
  h1 : h ≤ 100000
  p0 : 1 ≤ p
  p1 : p ≤ 100000
  f0 : 0 ≤ f
  f1 : f ≤ 4095
theorem m53_ok {h p f : Int} (w : Wav h p f) : m53 h p f = 0 := by
  simp only [m53, m24_iff.2 ⟨w.h0, w.h1⟩, m24_iff.2 ⟨w.p0, w.p1⟩, m24_iff.2 ⟨w.f0, w.f1⟩, cond_true, cond_false]
theorem m53_cases (h p f : Int) : (Wav h p f ∧ m53 h p f = 0 ∧ m122 h p f = true) ∨ (m53 h p f = 2 ∧ m122 h p f = false) := by
  by_cases w : Wav h p f
  · refine .inl ⟨w, m53_ok w, ?_⟩
    simp only [m122, m95_m29, m24_iff.2 ⟨w.h0, w.h1⟩, m24_iff.2 ⟨w.p0, w.p1⟩, m24_iff.2 ⟨w.f0, w.f1⟩, cond_true, cond_false]
  · right
    have : ¬ ((m24 h 0 100000 = true ∧ m24 p 1 100000 = true) ∧ m24 f 0 4095 = true) := fun ⟨⟨a, b⟩, c⟩ => w ⟨(m24_iff.1 a).1, (m24_iff.1 a).2, (m24_iff.1 b).1, (m24_iff.1 b).2, (m24_iff.1 c).1, (m24_iff.1 c).2⟩
    simp only [m53, m122, m95_m29]
    cases ha : m24 h 0 100000 <;> cases hb : m24 p 1 100000 <;> cases hc : m24 f 0 4095 <;> simp_all
/-- What the angles are: of y = phase * period + 4096 * minute, rounded, less whole turns. -/
theorem ang_mod {p y : Int} (hp : 0 < p) : (y % (4096 * p)) / p = y / p - (y / p) / 4096 * 4096 ∧ (-(y % (4096 * p))) / p = (-y) / p + (y / p) / 4096 * 4096 := by
  have e : y % (4096 * p) = y - p * ((y / p) / 4096 * 4096) := by
    rw [Int.emod_def, show (4096 : Int) * p = p * 4096 by omega, ← Int.ediv_ediv_of_nonneg (by omega)]
    have : p * 4096 * (y / p / 4096) = p * (y / p / 4096 * 4096) := by rw [Int.mul_assoc, Int.mul_comm 4096]
    omega
  constructor
  · rw [e, show y - p * ((y / p) / 4096 * 4096) = y + p * (-((y / p) / 4096 * 4096)) by rw [Int.mul_neg]; omega, Int.add_mul_ediv_left _ _ (Int.ne_of_gt hp)]
    omega
  · rw [e, show -(y - p * ((y / p) / 4096 * 4096)) = -y + p * ((y / p) / 4096 * 4096) by omega, Int.add_mul_ediv_left _ _ (Int.ne_of_gt hp)]
/-- The angles of a right wave at a minute. -/
structure Ang (h p f t : Int) (a : Int × Int) : Prop where
  m123 : m123 h p f t = a
  m54 : m54 h p f t = a
  n123 : n123 h p f t = true
  n54 : n54 h p f t = true
  lo0 : 0 ≤ a.1
  lo1 : a.1 ≤ 4095
  hi0 : a.1 ≤ a.2
  hi1 : a.2 ≤ a.1 + 1
theorem ang_ok {h p f t : Int} (w : Wav h p f) (t0 : 0 ≤ t) (t1 : t ≤ 1000000) : Ang h p f t (((f * p + 4096 * t) % (4096 * p)) / p, -((-((f * p + 4096 * t) % (4096 * p))) / p)) := by
  obtain ⟨h0, h1, p0, p1, f0, f1⟩ := w
  have fp0 : 0 ≤ f * p := Int.mul_nonneg f0 (by omega)
  have fp1 : f * p ≤ 4095 * 100000 := Int.mul_le_mul f1 p1 (by omega) (by omega)
  have hp : 0 < p := by omega
  have x0 := Int.emod_nonneg (f * p + 4096 * t) (show 4096 * p ≠ 0 by omega)
  have x1 := Int.emod_lt_of_pos (f * p + 4096 * t) (show 0 < 4096 * p by omega)
  obtain ⟨g1, g2⟩ := ang_mod (y := f * p + 4096 * t) hp
  have y1 : (f * p + 4096 * t) / p = f + 4096 * t / p := by rw [show f * p + 4096 * t = 4096 * t + p * f by rw [Int.mul_comm]; omega, Int.add_mul_ediv_left _ _ (by omega)]; omega
  have y2 : (-(f * p + 4096 * t)) / p = -f + (-(4096 * t)) / p := by rw [show -(f * p + 4096 * t) = -(4096 * t) + p * (-f) by rw [Int.mul_neg, Int.mul_comm]; omega, Int.add_mul_ediv_left _ _ (by omega)]; omega
  have z1 := (div_bd (x := 4096 * t) hp).1 (by omega)
  have z2 : -(4096 * t) ≤ (-(4096 * t)) / p ∧ (-(4096 * t)) / p ≤ 0 := by
    by_cases hh : t = 0
    · subst hh; simp
    · have := (div_bd (x := -(4096 * t)) hp).2 (by omega); omega
  have w1 : IntKind.i64.wrap (f * p) = f * p := wr (by omega) (by omega)
  have w2 : IntKind.i64.wrap (4096 * t) = 4096 * t := wr (by omega) (by omega)
  have w3 : IntKind.i64.wrap (f * p + 4096 * t) = f * p + 4096 * t := wr (by omega) (by omega)
  have w4 : IntKind.i64.wrap (4096 * p) = 4096 * p := wr (by omega) (by omega)
  have w5 : (f * p + 4096 * t).tmod (4096 * p) = (f * p + 4096 * t) % (4096 * p) := Int.tmod_eq_emod_of_nonneg (by omega)
  have c0 := Int.mul_ediv_add_emod ((f * p + 4096 * t) % (4096 * p)) p
  have c1 := Int.emod_nonneg ((f * p + 4096 * t) % (4096 * p)) (Int.ne_of_gt hp)
  have c2 := Int.emod_lt_of_pos ((f * p + 4096 * t) % (4096 * p)) hp
  have d0 := Int.mul_ediv_add_emod (-((f * p + 4096 * t) % (4096 * p))) p
  have d1 := Int.emod_nonneg (-((f * p + 4096 * t) % (4096 * p))) (Int.ne_of_gt hp)
  have d2 := Int.emod_lt_of_pos (-((f * p + 4096 * t) % (4096 * p))) hp
  have q1 : ((f * p + 4096 * t) % (4096 * p)) / p ≤ 4095 := by
    apply Int.lt_add_one_iff.1
    exact Int.ediv_lt_of_lt_mul hp (by omega)
  have q0 : 0 ≤ ((f * p + 4096 * t) % (4096 * p)) / p := Int.ediv_nonneg x0 (by omega)
  have r0 := (f * p + 4096 * t) % (4096 * p)
  have r1 : p * (((f * p + 4096 * t) % (4096 * p)) / p + (-((f * p + 4096 * t) % (4096 * p))) / p) = p * (((f * p + 4096 * t) % (4096 * p)) / p) + p * ((-((f * p + 4096 * t) % (4096 * p))) / p) := Int.mul_add _ _ _
  have r2 : ((f * p + 4096 * t) % (4096 * p)) / p + (-((f * p + 4096 * t) % (4096 * p))) / p ≤ 0 := by
    apply Decidable.byContradiction
    intro k
    have := Int.mul_le_mul_of_nonneg_left (show 1 ≤ ((f * p + 4096 * t) % (4096 * p)) / p + (-((f * p + 4096 * t) % (4096 * p))) / p by omega) (Int.le_of_lt hp)
    omega
  have r3 : -1 ≤ ((f * p + 4096 * t) % (4096 * p)) / p + (-((f * p + 4096 * t) % (4096 * p))) / p := by
    apply Decidable.byContradiction
    intro k
    have := Int.mul_le_mul_of_nonneg_left (show ((f * p + 4096 * t) % (4096 * p)) / p + (-((f * p + 4096 * t) % (4096 * p))) / p ≤ -2 by omega) (Int.le_of_lt hp)
    omega
  refine ⟨?_, ?_, ?_, ?_, q0, q1, by simp only; omega, by simp only; omega⟩
  · simp only [Go.Proofs.Ytbhldggbjjailaa.m123, w1, w2, w3, w4, w5]
    rw [m131_eq hp (by omega) (by omega) (by omega), m132_eq hp (by omega) (by omega) (by omega)]
  · simp only [Go.Proofs.Ytbhldggbjjailaa.m54, w2]
    rw [m104_eq hp (by omega) (by omega), m105_eq hp (by omega) (by omega), wr (n := f + 4096 * t / p) (by omega) (by omega), m104_eq (by omega) (by omega) (by omega), wr (n := f + -(-(4096 * t) / p)) (by omega) (by omega)]
    have t1 : (f + 4096 * t / p) / 4096 * 4096 ≤ f + 4096 * t / p ∧ 0 ≤ (f + 4096 * t / p) / 4096 := by omega
    rw [wr (n := (f + 4096 * t / p) / 4096 * 4096) (by omega) (by omega), wr (by omega) (by omega), wr (by omega) (by omega), g1, g2, y1, y2]
    refine Prod.ext rfl ?_
    simp only
    omega
  · simp only [Go.Proofs.Ytbhldggbjjailaa.n123, w4, n131_t hp, n132_t hp]
    rw [decide_eq_false (show ¬ 4096 * p = 0 by omega)]; rfl
  · simp only [Go.Proofs.Ytbhldggbjjailaa.n54, n104_t hp, n105_t hp, n104_t (show (0 : Int) < 4096 by omega)]; rfl
end Go.Proofs.Ytbhldggbjjailaa

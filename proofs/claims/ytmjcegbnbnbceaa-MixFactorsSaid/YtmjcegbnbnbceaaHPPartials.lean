/-
  The plain law of 'MixPartials': the law's model is true, and its need. Conditions: none.
-/
import Derived.Test.YtmjcegbnbnbceaaHPMatches
import Derived.Test.YtmjcegbnbnbceaaH1
import Derived.Test.YtmjcegbnbnbceaaH2
import Derived.Test.YtmjcegbnbnbceaaH3
import Derived.Test.YtmjcegbnbnbceaaHE1
import Derived.Test.YtmjcegbnbnbceaaHPMatches
namespace Go.Proofs.Ytmjcegbnbnbceaa
open Go Go.Sy
set_option linter.unusedVariables false
set_option maxRecDepth 100000
/-! ### quotients rounded down and up -/
theorem fl_props {X D : Int} (hD : 0 < D) (hX : 0 ≤ X) : 0 ≤ X / D ∧ X / D ≤ -((-X) / D) ∧ -((-X) / D) ≤ X / D + 1 ∧ D * (X / D) ≤ X ∧ X < D * (X / D) + D := by
  have e1 := Int.mul_ediv_add_emod X D
  have e2 := Int.mul_ediv_add_emod (-X) D
  have a1 := Int.emod_nonneg X (Int.ne_of_gt hD)
  have a2 := Int.emod_lt_of_pos X hD
  have b1 := Int.emod_nonneg (-X) (Int.ne_of_gt hD)
  have b2 := Int.emod_lt_of_pos (-X) hD
  have f0 := Int.ediv_nonneg hX (Int.le_of_lt hD)
  generalize X / D = f at *
  generalize (-X) / D = g at *
  have s : D * (f + g) = D * f + D * g := Int.mul_add _ _ _
  refine ⟨f0, ?_, ?_, by omega, by omega⟩
  · apply Decidable.byContradiction
    intro h
    have : D * 1 ≤ D * (f + g) := Int.mul_le_mul_of_nonneg_left (by omega) (by omega)
    omega
  · apply Decidable.byContradiction
    intro h
    have : D * (f + g) ≤ D * (-2) := Int.mul_le_mul_of_nonneg_left (by omega) (by omega)
    omega
theorem up_eq {X D : Int} (hD : 0 < D) : (X + D - 1) / D = -((-X) / D) := by
  have e1 := Int.mul_ediv_add_emod (X + D - 1) D
  have e2 := Int.mul_ediv_add_emod (-X) D
  have a1 := Int.emod_nonneg (X + D - 1) (Int.ne_of_gt hD)
  have a2 := Int.emod_lt_of_pos (X + D - 1) hD
  have b1 := Int.emod_nonneg (-X) (Int.ne_of_gt hD)
  have b2 := Int.emod_lt_of_pos (-X) hD
  generalize (X + D - 1) / D = f at *
  generalize (-X) / D = g at *
  have s : D * (f + g) = D * f + D * g := Int.mul_add _ _ _
  have h1 : f + g ≤ 0 := by
    apply Decidable.byContradiction
    intro h
    have : D * 1 ≤ D * (f + g) := Int.mul_le_mul_of_nonneg_left (by omega) (by omega)
    omega
  have h2 : 0 ≤ f + g := by
    apply Decidable.byContradiction
    intro h
    have : D * (f + g) ≤ D * (-1) := Int.mul_le_mul_of_nonneg_left (by omega) (by omega)
    omega
  omega
/-- Rounding down, as the reference does it. -/
theorem m93_eq {x y : Int} (hy : 0 < y) (hx0 : -4000000000000000000 ≤ x) (hx1 : x ≤ 4000000000000000000) : m93 x y = x / y := by
  have e1 := Int.mul_ediv_add_emod x y
  have a1 := Int.emod_nonneg x (Int.ne_of_gt hy)
  have a2 := Int.emod_lt_of_pos x hy
  have t1 := Int.mul_tdiv_add_tmod x y
  have q0 : -4000000000000000000 ≤ x / y ∧ x / y ≤ 4000000000000000000 := by
    by_cases h : 0 ≤ x
    · have := Int.ediv_nonneg h (Int.le_of_lt hy)
      have := Int.ediv_le_self y h
      omega
    · have : x / y ≤ 0 := by
        apply Decidable.byContradiction
        intro k
        have : y * 1 ≤ y * (x / y) := Int.mul_le_mul_of_nonneg_left (by omega) (by omega)
        omega
      have : -(-x) ≤ x / y := by
        apply Decidable.byContradiction
        intro k
        have h1 : y * (x / y) ≤ y * (x - 1) := Int.mul_le_mul_of_nonneg_left (by omega) (by omega)
        have h2 : y * (x - 1) = y * x - y := by rw [Int.mul_sub, Int.mul_one]
        have h3 : y * x ≤ 1 * x := Int.mul_le_mul_of_nonpos_right (by omega) (by omega)
        omega
      omega
  by_cases h : 0 ≤ x
  · have h1 : x.tmod y = x % y := Int.tmod_eq_emod_of_nonneg h
    have h2 : x.tdiv y = x / y := Int.tdiv_eq_ediv_of_nonneg h
    simp only [m93, h1, h2]
    rw [decide_eq_false (by omega), cond_false]
    exact wr (by omega) (by omega)
  · have h1 : x.tmod y = -((-x) % y) := by
      have := Int.neg_tmod (-x) y
      rw [Int.neg_neg, Int.tmod_eq_emod_of_nonneg (show 0 ≤ -x by omega)] at this
      exact this
    have c1 := Int.emod_nonneg (-x) (Int.ne_of_gt hy)
    have c2 := Int.emod_lt_of_pos (-x) hy
    generalize ht : x.tdiv y = t at *
    generalize hu : (-x) % y = u at *
    generalize hq : x / y = q at *
    generalize hr : x % y = r at *
    have s : y * (t - q) = y * t - y * q := Int.mul_sub _ _ _
    simp only [m93, h1, ht]
    by_cases hz : u = 0
    · rw [decide_eq_false (by omega), cond_false]
      have : t = q := by
        have h1 : t - q ≤ 0 := by
          apply Decidable.byContradiction
          intro h
          have : y * 1 ≤ y * (t - q) := Int.mul_le_mul_of_nonneg_left (by omega) (by omega)
          omega
        have h2 : 0 ≤ t - q := by
          apply Decidable.byContradiction
          intro h
          have : y * (t - q) ≤ y * (-1) := Int.mul_le_mul_of_nonneg_left (by omega) (by omega)
          omega
        omega
      rw [this]
      exact wr (by omega) (by omega)
    · rw [decide_eq_true (by omega), cond_true]
      have : t = q + 1 := by
        have h1 : t - q ≤ 1 := by
          apply Decidable.byContradiction
          intro h
          have : y * 2 ≤ y * (t - q) := Int.mul_le_mul_of_nonneg_left (by omega) (by omega)
          omega
        have h2 : 1 ≤ t - q := by
          apply Decidable.byContradiction
          intro h
          have : y * (t - q) ≤ y * 0 := Int.mul_le_mul_of_nonneg_left (by omega) (by omega)
          omega
        omega
      rw [this, wr (n := q + 1) (by omega) (by omega), wr (by omega) (by omega)]
      omega
theorem m88_eq {x y : Int} (hy : 0 < y) (hx0 : -4000000000000000000 ≤ x) (hx1 : x ≤ 4000000000000000000) : m88 x y = (x / y, -((-x) / y)) ∧ n88 x y = true := by
  have hy' : decide (y = 0) = false := decide_eq_false (by omega)
  have w : IntKind.i64.wrap (0 - x) = -x := by rw [wr (by omega) (by omega)]; omega
  have h1 := m93_eq (x := x) hy hx0 hx1
  have h2 := m93_eq (x := -x) hy (by omega) (by omega)
  have q0 : -4000000000000000000 ≤ (-x) / y ∧ (-x) / y ≤ 4000000000000000000 := by
    have e1 := Int.mul_ediv_add_emod (-x) y
    have a1 := Int.emod_nonneg (-x) (Int.ne_of_gt hy)
    have a2 := Int.emod_lt_of_pos (-x) hy
    by_cases h : 0 ≤ -x
    · have := Int.ediv_nonneg h (Int.le_of_lt hy)
      have := Int.ediv_le_self y h
      omega
    · have h3 : (-x) / y ≤ 0 := by
        apply Decidable.byContradiction
        intro k
        have : y * 1 ≤ y * ((-x) / y) := Int.mul_le_mul_of_nonneg_left (by omega) (by omega)
        omega
      have : -x ≤ (-x) / y := by
        apply Decidable.byContradiction
        intro k
        have h1 : y * ((-x) / y) ≤ y * (-x - 1) := Int.mul_le_mul_of_nonneg_left (by omega) (by omega)
        have h2 : y * (-x - 1) = y * (-x) - y := by rw [Int.mul_sub, Int.mul_one]
        have h3 : y * (-x) ≤ 1 * (-x) := Int.mul_le_mul_of_nonpos_right (by omega) (by omega)
        omega
      omega
  constructor
  · simp only [m88, m94, w, h1, h2]
    rw [wr (by omega) (by omega)]
    simp
  · simp [n88, n93, n94, hy']
theorem m86_eq {x y : Int} (hy : 0 < y) (hy1 : y ≤ 1000000000000000000) (hx0 : 0 ≤ x) (hx1 : x ≤ 4000000000000000000) : m86 x y = (x / y, -((-x) / y)) ∧ n86 x y = true := by
  have hy' : decide (y = 0) = false := decide_eq_false (by omega)
  have q1 := Int.ediv_nonneg hx0 (Int.le_of_lt hy)
  have q2 := Int.ediv_le_self y hx0
  have r1 := Int.ediv_nonneg (show 0 ≤ x + y - 1 by omega) (Int.le_of_lt hy)
  have r2 := Int.ediv_le_self y (show 0 ≤ x + y - 1 by omega)
  constructor
  · simp only [m86]
    rw [wr (n := x + y) (by omega) (by omega), wr (n := x + y - 1) (by omega) (by omega), Int.tdiv_eq_ediv_of_nonneg hx0, Int.tdiv_eq_ediv_of_nonneg (by omega), wr (n := x / y) (by omega) (by omega), wr (n := (x + y - 1) / y) (by omega) (by omega), up_eq hy]
  · simp [n86, hy']
theorem e83s {a b : Int} (h : m83 a b = 0) : (0 ≤ a ∧ a ≤ 1000) ∧ (0 ≤ b ∧ b ≤ 1000) ∧ a + b ≤ 1000 := by
  have h1 := e83 h
  refine ⟨h1.1, h1.2, ?_⟩
  have k : ∀ u : Int, 0 ≤ u → u ≤ 1000 → m18 u 0 1000 = true := fun u a b => by simp [m18, a, b]
  simp only [m83, k a h1.1.1 h1.1.2, k b h1.2.1 h1.2.2] at h
  rw [wr (by omega) (by omega)] at h
  by_cases hs : 1000 < a + b
  · simp [hs] at h
  · omega
theorem mulabs {x y A B : Int} (h0 : -A ≤ x) (h1 : x ≤ A) (y0 : 0 ≤ y) (y1 : y ≤ B) (hA : 0 ≤ A) : -(A * B) ≤ x * y ∧ x * y ≤ A * B := by
  have h2 : A * y ≤ A * B := Int.mul_le_mul_of_nonneg_left y1 hA
  have h3 : x * y ≤ A * y := Int.mul_le_mul_of_nonneg_right h1 y0
  have h4 : (-A) * y ≤ x * y := Int.mul_le_mul_of_nonneg_right h0 y0
  rw [Int.neg_mul] at h4
  omega
/-- What both compute. -/
theorem part_both {a b c o h p q T : Int} (ha : 0 ≤ a) (hb : 0 ≤ b) (hc : 0 ≤ c) (hS : m19 a b c = a + b + c) (hle : a + b + c ≤ T) (hT : T ≤ 1000000000) (h17 : m17 a b c = 0) (h83 : m83 o h = 0) (h83' : m83 p q = 0) (hN : p + q ≠ 1000) :
    n38 a b c o h p q T = true ∧ n39 a b c o h p q T = true ∧ (m38 a b c o h p q T = (0, 0, 0, 0, 0, 0, 12) ∧ m39 a b c o h p q T = (0, 0, 0, 0, 0, 0, 12) ∨
      ∃ X Y Z N : Int, 0 ≤ X ∧ 0 ≤ Y ∧ 0 ≤ Z ∧ 0 < N ∧ N ≤ 1000 ∧ X + Y + 1000 * Z = (T - (a + b + c)) * (1000 * N) ∧ m38 a b c o h p q T = (X / (1000 * N), -((-X) / (1000 * N)), Y / (1000 * N), -((-Y) / (1000 * N)), Z / N, -((-Z) / N), 0) ∧ m39 a b c o h p q T = m38 a b c o h p q T) := by
  obtain ⟨⟨o0, o1⟩, ⟨h0, h1⟩, oh⟩ := e83s h83
  obtain ⟨⟨p0, p1⟩, ⟨q0, q1⟩, pq⟩ := e83s h83'
  have h71 := e71 a b c
  have h81 := e81 o h
  have h81' := e81 p q
  have h74 : m74 a b c = a + b + c := hS
  have h18 : m18 T (a + b + c) 1000000000 = true := by simp [m18, hle, hT]
  have h73 : m73 T (a + b + c) 1000000000 = true := h18
  have N0 : IntKind.i64.wrap (IntKind.i64.wrap (1000 - p) - q) = 1000 - p - q := by
    rw [wr (n := 1000 - p) (by omega) (by omega), wr (by omega) (by omega)]
  have M0 : IntKind.i64.wrap (IntKind.i64.wrap (1000 - o) - h) = 1000 - o - h := by
    rw [wr (n := 1000 - o) (by omega) (by omega), wr (by omega) (by omega)]
  have N1 : m87 p q = 1000 - p - q := N0
  have M1 : m87 o h = 1000 - o - h := M0
  generalize hNN : 1000 - p - q = N at *
  generalize hMM : 1000 - o - h = M at *
  have to := mulb (show 0 ≤ T by omega) hT o0 o1
  have th := mulb (show 0 ≤ T by omega) hT h0 h1
  have tm := mulb (show 0 ≤ T by omega) hT (show 0 ≤ M by omega) (show M ≤ 1000 by omega)
  have tsum : T * o + T * h + T * M = 1000 * T := by
    have : o + h + M = 1000 := by omega
    rw [← Int.mul_add, ← Int.mul_add, this, Int.mul_comm]
  generalize hA : T * o = A at *
  generalize hB : T * h = B at *
  generalize hC : T * M = C at *
  have w0 : IntKind.i64.wrap (IntKind.i64.wrap A - IntKind.i64.wrap (1000 * a)) = A - 1000 * a := by
    rw [wr (n := A) (by omega) (by omega), wr (n := 1000 * a) (by omega) (by omega), wr (by omega) (by omega)]
  have w1 : IntKind.i64.wrap (IntKind.i64.wrap B - IntKind.i64.wrap (1000 * b)) = B - 1000 * b := by
    rw [wr (n := B) (by omega) (by omega), wr (n := 1000 * b) (by omega) (by omega), wr (by omega) (by omega)]
  have w2 : IntKind.i64.wrap (IntKind.i64.wrap C - IntKind.i64.wrap (1000 * c)) = C - 1000 * c := by
    rw [wr (n := C) (by omega) (by omega), wr (n := 1000 * c) (by omega) (by omega), wr (by omega) (by omega)]
  generalize hL0 : A - 1000 * a = L0 at *
  generalize hL1 : B - 1000 * b = L1 at *
  generalize hL2 : C - 1000 * c = L2 at *
  have v0 := mulabs (x := L0) (y := N) (A := 1000000000000) (B := 1000) (by omega) (by omega) (by omega) (by omega) (by omega)
  have v1 := mulabs (x := L1) (y := N) (A := 1000000000000) (B := 1000) (by omega) (by omega) (by omega) (by omega) (by omega)
  have v2 := mulabs (x := L2) (y := p) (A := 1000000000000) (B := 1000) (by omega) (by omega) (by omega) (by omega) (by omega)
  have v3 := mulabs (x := L2) (y := q) (A := 1000000000000) (B := 1000) (by omega) (by omega) (by omega) (by omega) (by omega)
  have w3 : IntKind.i64.wrap (IntKind.i64.wrap (L0 * N) - IntKind.i64.wrap (L2 * p)) = L0 * N - L2 * p := by
    rw [wr (n := L0 * N) (by omega) (by omega), wr (n := L2 * p) (by omega) (by omega), wr (by omega) (by omega)]
  have w4 : IntKind.i64.wrap (IntKind.i64.wrap (L1 * N) - IntKind.i64.wrap (L2 * q)) = L1 * N - L2 * q := by
    rw [wr (n := L1 * N) (by omega) (by omega), wr (n := L2 * q) (by omega) (by omega), wr (by omega) (by omega)]
  have w5 : IntKind.i64.wrap (1000 * N) = 1000 * N := wr (by omega) (by omega)
  have w6 : IntKind.i64.wrap (1000 * L2) = 1000 * L2 := wr (by omega) (by omega)
  have esum : (L0 * N - L2 * p) + (L1 * N - L2 * q) + 1000 * L2 = (T - (a + b + c)) * (1000 * N) := by
    have e1 : (T - (a + b + c)) * (1000 * N) = (L0 + L1 + L2) * N := by
      have : L0 + L1 + L2 = (T - (a + b + c)) * 1000 := by omega
      rw [this, Int.mul_assoc]
    have e2 : L2 * (p + q + N) = L2 * 1000 := by congr 1; omega
    rw [e1, Int.add_mul, Int.add_mul]
    rw [Int.mul_add, Int.mul_add] at e2
    omega
  generalize hX : L0 * N - L2 * p = X at *
  generalize hY : L1 * N - L2 * q = Y at *
  have key38 : n38 a b c o h p q T = (cond (decide (imin (imin X Y) L2 < 0)) true (n86 X (1000 * N) && (n86 Y (1000 * N) && (n86 L2 N && true)))) ∧ m38 a b c o h p q T = (cond (decide (imin (imin X Y) L2 < 0)) (0, 0, 0, 0, 0, 0, 12) ((m86 X (1000 * N)).1, (m86 X (1000 * N)).2, (m86 Y (1000 * N)).1, (m86 Y (1000 * N)).2, (m86 L2 N).1, (m86 L2 N).2, 0)) := by
    simp only [n38, m38, m72, h71.1, h71.2, h81.1, h81.2, h81'.1, h81'.2, h74, h73, h17, h83, h83', N0, M0, hA, hB, hC, w0, w1, w2, w3, w4, w5]
    have : ¬ N = 0 := by omega
    simp [this]
  have key39 : n39 a b c o h p q T = (cond (decide (X < 0)) true (n88 X (1000 * N) && (cond (decide (Y < 0)) true (n88 Y (1000 * N) && (cond (decide (1000 * L2 < 0)) true (n88 (1000 * L2) (1000 * N) && true)))))) ∧ m39 a b c o h p q T = (cond (decide (X < 0)) (0, 0, 0, 0, 0, 0, 12) (cond (decide (Y < 0)) (0, 0, 0, 0, 0, 0, 12) (cond (decide (1000 * L2 < 0)) (0, 0, 0, 0, 0, 0, 12) ((m88 X (1000 * N)).1, (m88 X (1000 * N)).2, (m88 Y (1000 * N)).1, (m88 Y (1000 * N)).2, (m88 (1000 * L2) (1000 * N)).1, (m88 (1000 * L2) (1000 * N)).2, 0)))) := by
    simp only [n39, m39, hS, h18, h17, h83, h83', N1, M1, hA, hB, hC, w0, w1, w2, w3, w4, w5, w6]
    have : ¬ N = 0 := by omega
    simp [this]
  rw [key38.1, key38.2, key39.1, key39.2]
  by_cases n0 : X < 0
  · have i0 : imin (imin X Y) L2 < 0 := by unfold imin; split <;> split <;> omega
    simp [n0, i0]
  · have c0 := m88_eq (x := X) (y := 1000 * N) (by omega) (by omega) (by omega)
    by_cases n1 : Y < 0
    · have i0 : imin (imin X Y) L2 < 0 := by unfold imin; split <;> split <;> omega
      simp [n0, n1, i0, c0.2]
    · have c1 := m88_eq (x := Y) (y := 1000 * N) (by omega) (by omega) (by omega)
      by_cases n2 : L2 < 0
      · have i0 : imin (imin X Y) L2 < 0 := by unfold imin; split <;> split <;> omega
        have n2' : 1000 * L2 < 0 := by omega
        simp [n0, n1, n2', i0, c0.2, c1.2]
      · have i0 : ¬ imin (imin X Y) L2 < 0 := by unfold imin; split <;> split <;> omega
        have n2' : ¬ 1000 * L2 < 0 := by omega
        have c2 := m88_eq (x := 1000 * L2) (y := 1000 * N) (by omega) (by omega) (by omega)
        have d0 := m86_eq (x := X) (y := 1000 * N) (by omega) (by omega) (by omega) (by omega)
        have d1 := m86_eq (x := Y) (y := 1000 * N) (by omega) (by omega) (by omega) (by omega)
        have d2 := m86_eq (x := L2) (y := N) (by omega) (by omega) (by omega) (by omega)
        have r1 : 1000 * L2 / (1000 * N) = L2 / N := Int.mul_ediv_mul_of_pos _ _ (by omega)
        have r2 : -(1000 * L2) / (1000 * N) = (-L2) / N := by
          rw [← Int.mul_neg]
          exact Int.mul_ediv_mul_of_pos _ _ (by omega)
        rw [decide_eq_false n0, decide_eq_false n1, decide_eq_false n2', decide_eq_false i0, c0.1, c0.2, c1.1, c1.2, c2.1, c2.2, d0.1, d0.2, d1.1, d1.2, d2.1, d2.2, r1, r2]
        exact ⟨rfl, rfl, Or.inr ⟨X, Y, L2, N, by omega, by omega, by omega, by omega, by omega, esum, rfl, rfl⟩⟩
theorem lawPartials (a b c o h p q T : Int) : n8 a b c o h p q T = true ∧ m8 a b c o h p q T = true := by
  have h71 := e71 a b c
  have h81 := e81 o h
  have h81' := e81 p q
  have h74 : m74 a b c = m19 a b c := rfl
  have h73 : ∀ x, m73 T x 1000000000 = m18 T x 1000000000 := fun x => rfl
  have h87 : IntKind.i64.wrap (IntKind.i64.wrap (1000 - p) - q) = m87 p q := rfl
  by_cases h17 : m17 a b c = 0
  · by_cases h83 : m83 o h = 0
    · by_cases h83' : m83 p q = 0
      · obtain ⟨ha, hb, hc, h19, hle⟩ := e17 h17
        by_cases h18 : m18 T (m19 a b c) 1000000000 = true
        · have hT : a + b + c ≤ T ∧ T ≤ 1000000000 := by
            rw [h19] at h18
            simp only [m18] at h18
            by_cases k1 : a + b + c ≤ T <;> by_cases k2 : T ≤ 1000000000 <;> simp [k1, k2] at h18 ⊢
          by_cases hz : m87 p q = 0
          · simp only [n8, m8, n15_true, m15_true, n38, m38, n39, m39, m72, h71.1, h71.2, h81.1, h81.2, h81'.1, h81'.2, h74, h73, h87, h17, h83, h83', h18, hz]
            simp
          · have hN : p + q ≠ 1000 := by
              intro e
              apply hz
              obtain ⟨⟨p0, p1⟩, ⟨q0, q1⟩, pq⟩ := e83s h83'
              simp only [m87]
              rw [wr (n := 1000 - p) (by omega) (by omega), wr (by omega) (by omega)]
              omega
            obtain ⟨k1, k2, k3⟩ := part_both ha.1 hb.1 hc.1 h19 hT.1 hT.2 h17 h83 h83' hN
            rcases k3 with ⟨e1, e2⟩ | ⟨X, Y, Z, N, x0, y0, z0, N0, N1, es, e1, e2⟩
            · simp only [n8, m8, n15_true, m15_true, k1, k2, e1, e2]
              simp
            · rw [e1] at e2
              have hD : 0 < 1000 * N := by omega
              have px := fl_props hD x0
              have py := fl_props hD y0
              have pz := fl_props (show 0 < 1000 * N by omega) (show 0 ≤ 1000 * Z by omega)
              have r1 : 1000 * Z / (1000 * N) = Z / N := Int.mul_ediv_mul_of_pos _ _ (by omega)
              have r2 : -(1000 * Z) / (1000 * N) = (-Z) / N := by
                rw [← Int.mul_neg]
                exact Int.mul_ediv_mul_of_pos _ _ (by omega)
              rw [r1, r2] at pz
              generalize X / (1000 * N) = fx at *
              generalize -((-X) / (1000 * N)) = cx at *
              generalize Y / (1000 * N) = fy at *
              generalize -((-Y) / (1000 * N)) = cy at *
              generalize Z / N = fz at *
              generalize -((-Z) / N) = cz at *
              generalize 1000 * N = D at *
              have es2 : (T - (a + b + c)) * D = D * (T - (a + b + c)) := Int.mul_comm _ _
              have s1 : fx + fy + fz ≤ T - (a + b + c) := by
                apply Decidable.byContradiction
                intro hh
                have h1 : D * (T - (a + b + c) + 1) ≤ D * (fx + fy + fz) := Int.mul_le_mul_of_nonneg_left (by omega) (by omega)
                rw [Int.mul_add, Int.mul_add, Int.mul_add, Int.mul_one] at h1
                omega
              have s2 : T - (a + b + c) ≤ fx + fy + fz + 2 := by
                apply Decidable.byContradiction
                intro hh
                have h1 : D * (fx + fy + fz + 3) ≤ D * (T - (a + b + c)) := Int.mul_le_mul_of_nonneg_left (by omega) (by omega)
                rw [Int.mul_add, Int.mul_add, Int.mul_add] at h1
                omega
              have kx : m18 fx 0 cx = true := by simp [m18, px.1, px.2.1]
              have ky : m18 fy 0 cy = true := by simp [m18, py.1, py.2.1]
              have kz : m18 fz 0 cz = true := by simp [m18, pz.1, pz.2.1]
              have wx : IntKind.i64.wrap (fx + 1) = fx + 1 := wr (by omega) (by omega)
              have wy : IntKind.i64.wrap (fy + 1) = fy + 1 := wr (by omega) (by omega)
              have wz : IntKind.i64.wrap (fz + 1) = fz + 1 := wr (by omega) (by omega)
              have w1 : IntKind.i64.wrap (a + b + c + fx) = a + b + c + fx := wr (by omega) (by omega)
              have w2 : IntKind.i64.wrap (a + b + c + fx + fy) = a + b + c + fx + fy := wr (by omega) (by omega)
              have w3 : IntKind.i64.wrap (a + b + c + fx + fy + fz) = a + b + c + fx + fy + fz := wr (by omega) (by omega)
              have w4 : IntKind.i64.wrap (T - (a + b + c + fx + fy + fz)) = T - (a + b + c + fx + fy + fz) := wr (by omega) (by omega)
              have kl : m18 (T - (a + b + c + fx + fy + fz)) 0 3 = true := by
                have h1 : 0 ≤ T - (a + b + c + fx + fy + fz) := by omega
                have h2 : T - (a + b + c + fx + fy + fz) ≤ 3 := by omega
                simp only [m18]; rw [decide_eq_true h1, decide_eq_true h2]; rfl
              have nx : ¬ fx + 1 < cx := by omega
              have ny : ¬ fy + 1 < cy := by omega
              have nz : ¬ fz + 1 < cz := by omega
              have bx : ¬ 2000000000 < cx := by omega
              have by' : ¬ 2000000000 < cy := by omega
              have bz : ¬ 2000000000 < cz := by omega
              simp only [n8, m8, n15_true, m15_true, k1, k2, e1, e2, h19, kx, ky, kz, wx, wy, wz, w1, w2, w3, w4, kl, nx, ny, nz, bx, by', bz]
              simp
        · simp only [Bool.not_eq_true] at h18
          simp only [n8, m8, n15_true, m15_true, n38, m38, n39, m39, m72, h71.1, h71.2, h81.1, h81.2, h81'.1, h81'.2, h74, h73, h87, h17, h83, h83', h18]
          simp
      · simp only [n8, m8, n15_true, m15_true, n38, m38, n39, m39, m72, h71.1, h71.2, h81.1, h81.2, h81'.1, h81'.2, h17, h83]
        simp [h83']
    · simp only [n8, m8, n15_true, m15_true, n38, m38, n39, m39, m72, h71.1, h71.2, h81.1, h81.2, h17]
      simp [h83]
  · simp only [n8, m8, n15_true, m15_true, n38, m38, n39, m39, m72, h71.1, h71.2]
    simp [h17]
#print axioms lawPartials
end Go.Proofs.Ytmjcegbnbnbceaa

/-
  The plain law of 'TopFillTwoWays': the law's model is true, and its need. Conditions: none.
-/
import Derived.Test.YtmndejpcpfkajaaAPFill
namespace Go.Proofs.Ytmndejpcpfkajaa
open Go Go.Sy Lin
set_option linter.unusedVariables false
set_option linter.unusedSimpArgs false
set_option linter.unusedSectionVars false
set_option maxRecDepth 100000
namespace TW
theorem n18_val : n18 = true := by kernel_rfl
theorem m18_val : m18 = true := by kernel_rfl
theorem fl_props {X D : Int} (hD : 0 < D) (hX : 0 ≤ X) : 0 ≤ X / D ∧ X / D ≤ -((-X) / D) ∧ D * (X / D) ≤ X ∧ X ≤ D * -((-X) / D) ∧ -((-X) / D) ≤ X / D + 1 := by
  have e1 := Int.mul_ediv_add_emod X D
  have e2 := Int.mul_ediv_add_emod (-X) D
  have a1 := Int.emod_nonneg X (Int.ne_of_gt hD)
  have a2 := Int.emod_lt_of_pos X hD
  have b1 := Int.emod_nonneg (-X) (Int.ne_of_gt hD)
  have b2 := Int.emod_lt_of_pos (-X) hD
  have f0 := Int.ediv_nonneg hX (Int.le_of_lt hD)
  generalize X / D = f at *
  generalize (-X) / D = g at *
  have s : D * (f + g) = D * f + D * g := Int.mul_add _ _ _
  have s2 : D * -g = -(D * g) := Int.mul_neg _ _
  refine ⟨f0, ?_, by omega, by omega, ?_⟩
  · apply Decidable.byContradiction
    intro h
    have : D * 1 ≤ D * (f + g) := Int.mul_le_mul_of_nonneg_left (by omega) (by omega)
    omega
  · apply Decidable.byContradiction
    intro h
    have : D * (f + g) ≤ D * (-2) := Int.mul_le_mul_of_nonneg_left (by omega) (by omega)
    omega
theorem up_eq {X D : Int} (hD : 0 < D) : (X + D - 1) / D = -((-X) / D) := by
  have e1 := Int.mul_ediv_add_emod (X + D - 1) D
  have e2 := Int.mul_ediv_add_emod (-X) D
  have a1 := Int.emod_nonneg (X + D - 1) (Int.ne_of_gt hD)
  have a2 := Int.emod_lt_of_pos (X + D - 1) hD
  have b1 := Int.emod_nonneg (-X) (Int.ne_of_gt hD)
  have b2 := Int.emod_lt_of_pos (-X) hD
  generalize (X + D - 1) / D = f at *
  generalize (-X) / D = g at *
  have s : D * (f + g) = D * f + D * g := Int.mul_add _ _ _
  have h1 : f + g ≤ 0 := by
    apply Decidable.byContradiction
    intro h
    have : D * 1 ≤ D * (f + g) := Int.mul_le_mul_of_nonneg_left (by omega) (by omega)
    omega
  have h2 : 0 ≤ f + g := by
    apply Decidable.byContradiction
    intro h
    have : D * (f + g) ≤ D * (-1) := Int.mul_le_mul_of_nonneg_left (by omega) (by omega)
    omega
  omega
theorem m89_eq {x y : Int} (hy : 0 < y) (hy1 : y ≤ 1000000000000000000) (hx0 : 0 ≤ x) (hx1 : x ≤ 4000000000000000000) : m89 x y = (x / y, -((-x) / y)) ∧ n89 x y = true := by
  have hy' : decide (y = 0) = false := decide_eq_false (by omega)
  have q1 := Int.ediv_nonneg hx0 (Int.le_of_lt hy)
  have q2 := Int.ediv_le_self y hx0
  have r1 := Int.ediv_nonneg (show 0 ≤ x + y - 1 by omega) (Int.le_of_lt hy)
  have r2 := Int.ediv_le_self y (show 0 ≤ x + y - 1 by omega)
  constructor
  · simp only [m89]
    rw [wr (n := x + y) (by omega) (by omega), wr (n := x + y - 1) (by omega) (by omega), Int.tdiv_eq_ediv_of_nonneg hx0, Int.tdiv_eq_ediv_of_nonneg (by omega), wr (n := x / y) (by omega) (by omega), wr (n := (x + y - 1) / y) (by omega) (by omega), up_eq hy]
  · simp [n89, hy']
theorem mulabs {x y A B : Int} (h0 : -A ≤ x) (h1 : x ≤ A) (y0 : 0 ≤ y) (y1 : y ≤ B) (hA : 0 ≤ A) : -(A * B) ≤ x * y ∧ x * y ≤ A * B := by
  have h2 : A * y ≤ A * B := Int.mul_le_mul_of_nonneg_left y1 hA
  have h3 : x * y ≤ A * y := Int.mul_le_mul_of_nonneg_right h1 y0
  have h4 : (-A) * y ≤ x * y := Int.mul_le_mul_of_nonneg_right h0 y0
  rw [Int.neg_mul] at h4
  omega
theorem m91_vals (o h : Int) : m91 o h = 0 ∨ (m91 o h ≠ 0 ∧ m91 o h ≠ 12) := by
  simp only [m91]
  cases m32 o 0 1000 <;> cases m32 h 0 1000 <;> simp <;> (cases decide (1000 < IntKind.i64.wrap (o + h)) <;> simp)
theorem e91s {a b : Int} (h : m91 a b = 0) : (0 ≤ a ∧ a ≤ 1000) ∧ (0 ≤ b ∧ b ≤ 1000) ∧ a + b ≤ 1000 := by
  have h1 := e91 h
  refine ⟨h1.1, h1.2, ?_⟩
  have k : ∀ u : Int, 0 ≤ u → u ≤ 1000 → m32 u 0 1000 = true := fun u a b => by simp [m32, a, b]
  simp only [m91, k a h1.1.1 h1.1.2, k b h1.2.1 h1.2.2] at h
  rw [wr (by omega) (by omega)] at h
  by_cases hs : 1000 < a + b
  · simp [hs] at h
  · omega
theorem part_all {a b c o h p q T : Int} (h17 : m26 a b c = 0) (hle : a + b + c ≤ T) (hT : T ≤ 10000000) :
    n33 a b c o h p q T = true ∧ ((∃ e, m33 a b c o h p q T = (0, 0, 0, 0, 0, 0, e) ∧ e ≠ 0 ∧ e ≠ 12) ∨
      ∃ X Y Z N : Int, 0 < N ∧ N ≤ 1000 ∧ N = 1000 - p - q ∧ Z = T * (1000 - o - h) - 1000 * c ∧ X = (T * o - 1000 * a) * N - Z * p ∧ Y = (T * h - 1000 * b) * N - Z * q ∧
        ((m33 a b c o h p q T = (0, 0, 0, 0, 0, 0, 12) ∧ (X < 0 ∨ Y < 0 ∨ Z < 0)) ∨
         (0 ≤ X ∧ 0 ≤ Y ∧ 0 ≤ Z ∧ m33 a b c o h p q T = (X / (1000 * N), -((-X) / (1000 * N)), Y / (1000 * N), -((-Y) / (1000 * N)), Z / N, -((-Z) / N), 0)))) := by
  obtain ⟨⟨ha, _⟩, ⟨hb, _⟩, ⟨hc, _⟩, hS, _⟩ := e26 h17
  have h71 := e81 a b c
  have h81 := e88 o h
  have h81' := e88 p q
  rcases m91_vals o h with h83 | ⟨h83, h83e⟩
  rotate_left
  · refine ⟨?_, .inl ⟨m91 o h, ?_, h83, h83e⟩⟩
    · simp only [n33, m82, h71.1, h71.2, h81.1, h81.2, h17, decide_eq_false h83, decide_true, cond_true, cond_false]; rfl
    · simp only [m33, m82, h71.1, h81.1, h17, decide_eq_false h83, decide_true, cond_true, cond_false]
  rcases m91_vals p q with h83' | ⟨h83', h83e⟩
  rotate_left
  · refine ⟨?_, .inl ⟨m91 p q, ?_, h83', h83e⟩⟩
    · simp only [n33, m82, h71.1, h71.2, h81.1, h81.2, h81'.1, h81'.2, h17, h83, decide_eq_false h83', decide_true, cond_true, cond_false]; rfl
    · simp only [m33, m82, h71.1, h81.1, h81'.1, h17, h83, decide_eq_false h83', decide_true, cond_true, cond_false]
  obtain ⟨⟨o0, o1⟩, ⟨h0, h1⟩, oh⟩ := e91s h83
  obtain ⟨⟨p0, p1⟩, ⟨q0, q1⟩, pq⟩ := e91s h83'
  have h74 : m84 a b c = a + b + c := hS
  have h73 : m83 T (a + b + c) 1000000000 = true := by
    have h2 : T ≤ 1000000000 := by omega
    simp [m83, hle, h2]
  have N0 : IntKind.i64.wrap (IntKind.i64.wrap (1000 - p) - q) = 1000 - p - q := by
    rw [wr (n := 1000 - p) (by omega) (by omega), wr (by omega) (by omega)]
  have M0 : IntKind.i64.wrap (IntKind.i64.wrap (1000 - o) - h) = 1000 - o - h := by
    rw [wr (n := 1000 - o) (by omega) (by omega), wr (by omega) (by omega)]
  have to := mulb (show 0 ≤ T by omega) hT o0 o1
  have th := mulb (show 0 ≤ T by omega) hT h0 h1
  have tm := mulb (show 0 ≤ T by omega) hT (show 0 ≤ 1000 - o - h by omega) (show 1000 - o - h ≤ 1000 by omega)
  by_cases hN : 1000 - p - q = 0
  · refine ⟨?_, .inl ⟨11, ?_, by decide, by decide⟩⟩
    · simp only [n33, m82, h71.1, h71.2, h81.1, h81.2, h81'.1, h81'.2, h74, h73, h17, h83, h83', N0, hN, decide_true, cond_true, cond_false]; rfl
    · simp only [m33, m82, h71.1, h81.1, h81'.1, h74, h73, h17, h83, h83', N0, hN, decide_true, cond_true, cond_false]
  generalize hNN : 1000 - p - q = N at *
  generalize hMM : 1000 - o - h = M at *
  generalize hA : T * o = A at *
  generalize hB : T * h = B at *
  generalize hC : T * M = C at *
  have w0 : IntKind.i64.wrap (IntKind.i64.wrap A - IntKind.i64.wrap (1000 * a)) = A - 1000 * a := by
    rw [wr (n := A) (by omega) (by omega), wr (n := 1000 * a) (by omega) (by omega), wr (by omega) (by omega)]
  have w1 : IntKind.i64.wrap (IntKind.i64.wrap B - IntKind.i64.wrap (1000 * b)) = B - 1000 * b := by
    rw [wr (n := B) (by omega) (by omega), wr (n := 1000 * b) (by omega) (by omega), wr (by omega) (by omega)]
  have w2 : IntKind.i64.wrap (IntKind.i64.wrap C - IntKind.i64.wrap (1000 * c)) = C - 1000 * c := by
    rw [wr (n := C) (by omega) (by omega), wr (n := 1000 * c) (by omega) (by omega), wr (by omega) (by omega)]
  generalize hL0 : A - 1000 * a = L0 at *
  generalize hL1 : B - 1000 * b = L1 at *
  generalize hL2 : C - 1000 * c = L2 at *
  have v0 := mulabs (x := L0) (y := N) (A := 1000000000000) (B := 1000) (by omega) (by omega) (by omega) (by omega) (by omega)
  have v1 := mulabs (x := L1) (y := N) (A := 1000000000000) (B := 1000) (by omega) (by omega) (by omega) (by omega) (by omega)
  have v2 := mulabs (x := L2) (y := p) (A := 1000000000000) (B := 1000) (by omega) (by omega) (by omega) (by omega) (by omega)
  have v3 := mulabs (x := L2) (y := q) (A := 1000000000000) (B := 1000) (by omega) (by omega) (by omega) (by omega) (by omega)
  have w3 : IntKind.i64.wrap (IntKind.i64.wrap (L0 * N) - IntKind.i64.wrap (L2 * p)) = L0 * N - L2 * p := by
    rw [wr (n := L0 * N) (by omega) (by omega), wr (n := L2 * p) (by omega) (by omega), wr (by omega) (by omega)]
  have w4 : IntKind.i64.wrap (IntKind.i64.wrap (L1 * N) - IntKind.i64.wrap (L2 * q)) = L1 * N - L2 * q := by
    rw [wr (n := L1 * N) (by omega) (by omega), wr (n := L2 * q) (by omega) (by omega), wr (by omega) (by omega)]
  have w5 : IntKind.i64.wrap (1000 * N) = 1000 * N := wr (by omega) (by omega)
  generalize hX : L0 * N - L2 * p = X at *
  generalize hY : L1 * N - L2 * q = Y at *
  have key : n33 a b c o h p q T = (cond (decide (imin (imin X Y) L2 < 0)) true (n89 X (1000 * N) && (n89 Y (1000 * N) && (n89 L2 N && true)))) ∧ m33 a b c o h p q T = (cond (decide (imin (imin X Y) L2 < 0)) (0, 0, 0, 0, 0, 0, 12) ((m89 X (1000 * N)).1, (m89 X (1000 * N)).2, (m89 Y (1000 * N)).1, (m89 Y (1000 * N)).2, (m89 L2 N).1, (m89 L2 N).2, 0)) := by
    simp only [n33, m33, m82, h71.1, h71.2, h81.1, h81.2, h81'.1, h81'.2, h74, h73, h17, h83, h83', N0, M0, hA, hB, hC, w0, w1, w2, w3, w4, w5]
    simp [hN]
  rw [key.1, key.2]
  by_cases i0 : imin (imin X Y) L2 < 0
  · rw [decide_eq_true i0]
    refine ⟨rfl, .inr ⟨X, Y, L2, N, by omega, by omega, rfl, rfl, hX.symm, hY.symm, .inl ⟨rfl, ?_⟩⟩⟩
    unfold imin at i0
    split at i0 <;> split at i0 <;> omega
  · rw [decide_eq_false i0]
    have h3 : 0 ≤ X ∧ 0 ≤ Y ∧ 0 ≤ L2 := by unfold imin at i0; split at i0 <;> split at i0 <;> omega
    have d0 := m89_eq (x := X) (y := 1000 * N) (by omega) (by omega) (by omega) (by omega)
    have d1 := m89_eq (x := Y) (y := 1000 * N) (by omega) (by omega) (by omega) (by omega)
    have d2 := m89_eq (x := L2) (y := N) (by omega) (by omega) (by omega) (by omega)
    rw [d0.1, d0.2, d1.1, d1.2, d2.1, d2.2]
    exact ⟨rfl, .inr ⟨X, Y, L2, N, by omega, by omega, rfl, rfl, hX.symm, hY.symm, .inr ⟨h3.1, h3.2.1, h3.2.2, rfl⟩⟩⟩
theorem sm3 (f : Nat → Int) : sm f 3 = f 0 + f 1 + f 2 := by simp only [sm]; omega
theorem parts_eq {D w L0 L1 L2 X0 X1 X2 p q N : Int} (hN : N = 1000 - p - q) (hs : L0 + L1 + L2 = 1000 * w) (e0 : X0 + X1 + X2 = D * w) (e1 : X0 * 1000 + X1 * 0 + X2 * p = D * L0) (e2 : X0 * 0 + X1 * 1000 + X2 * q = D * L1) :
    X2 * N = D * L2 ∧ X0 * (1000 * N) = D * (L0 * N - L2 * p) ∧ X1 * (1000 * N) = D * (L1 * N - L2 * q) := by
  have h2 : X2 * N = D * L2 := by subst hN; grind
  exact ⟨h2, by grind, by grind⟩
theorem parts_of {w L0 L1 L2 X Y p q N : Int} (hN : N = 1000 - p - q) (hs : L0 + L1 + L2 = 1000 * w) (hX : X = L0 * N - L2 * p) (hY : Y = L1 * N - L2 * q) :
    X + Y + 1000 * L2 = 1000 * N * w ∧ X * 1000 + Y * 0 + 1000 * L2 * p = 1000 * N * L0 ∧ X * 0 + Y * 1000 + 1000 * L2 * q = 1000 * N * L1 := by
  subst hX; subst hY; subst hN
  refine ⟨by grind, by grind, by grind⟩
theorem sign_of {D x K Z : Int} (hD : 0 < D) (hK : 0 < K) (hx : 0 ≤ x) (h : x * K = D * Z) : 0 ≤ Z := by
  apply Decidable.byContradiction
  intro hz
  have a : 0 ≤ x * K := Int.mul_nonneg hx (by omega)
  have b : D * Z ≤ D * (-1) := Int.mul_le_mul_of_nonneg_left (by omega) (by omega)
  omega
theorem within_of {D x K X : Int} (hD : 0 < D) (hK : 0 < K) (hX : 0 ≤ X) (h : x * K = D * X) : X / K * D ≤ x ∧ x ≤ -((-X) / K) * D := by
  obtain ⟨f0, f1, f2, f3, _⟩ := fl_props hK hX
  generalize X / K = f at *
  generalize -((-X) / K) = g at *
  have a : D * (K * f) ≤ D * X := Int.mul_le_mul_of_nonneg_left f2 (by omega)
  have b : D * X ≤ D * (K * g) := Int.mul_le_mul_of_nonneg_left f3 (by omega)
  constructor
  · apply Int.le_of_mul_le_mul_right _ hK
    have : f * D * K = D * (K * f) := by grind
    omega
  · apply Int.le_of_mul_le_mul_right _ hK
    have : g * D * K = D * (K * g) := by grind
    omega
end TW
open TW
section
variable {d : Dat} {a b c o h p q T : Int} (h34 : m34 3 d a b c T o o h h = 0) (hs : ∀ i, i < 3 → (d.ss i 0).size ≤ 9223372036854775807)
  (d01 : d.ii 0 1 = 1000) (d02 : d.ii 0 2 = 0) (d11 : d.ii 1 1 = 0) (d12 : d.ii 1 2 = 1000) (d21 : d.ii 2 1 = p) (d22 : d.ii 2 2 = q) (d4 : ∀ i, i < 3 → d.ii i 4 = 10000000)
include h34 hs d01 d02 d11 d12 d21 d22 d4
theorem two_plan {X Y Z N : Int} (hN : N = 1000 - p - q) (hN0 : 0 < N) (hZ : Z = T * (1000 - o - h) - 1000 * c) (hX : X = (T * o - 1000 * a) * N - Z * p) (hY : Y = (T * h - 1000 * b) * N - Z * q) :
    (∀ D V, (lpOf (askD 3 d a b c T o o h h)).Plan D V → 0 ≤ X ∧ 0 ≤ Y ∧ 0 ≤ Z ∧ V 0 * (1000 * N) = D * X ∧ V 1 * (1000 * N) = D * Y ∧ V 2 * N = D * Z) ∧
    (0 ≤ X → 0 ≤ Y → 0 ≤ Z → ∃ D V, (lpOf (askD 3 d a b c T o o h h)).Plan D V) := by
  have R := rightK_of (by decide) hs h34
  have K := askK_of R
  have hS : (T * o - 1000 * a) + (T * h - 1000 * b) + Z = 1000 * (T - (a + b + c)) := by subst hZ; grind
  have c1 : o * T = T * o := Int.mul_comm _ _
  have c2 : h * T = T * h := Int.mul_comm _ _
  constructor
  · intro D V hP
    obtain ⟨g1, g2, g3, g4, g5, g6, g7⟩ := (plan_iff K D V).1 hP
    rw [sm3] at g5 g6 g7
    rw [d01, d11, d21] at g6
    rw [d02, d12, d22] at g7
    have e1 : V 0 * 1000 + V 1 * 0 + V 2 * p = D * (T * o - 1000 * a) := by rw [← c1]; omega
    have e2 : V 0 * 0 + V 1 * 1000 + V 2 * q = D * (T * h - 1000 * b) := by rw [← c2]; omega
    obtain ⟨k2, k0, k1⟩ := parts_eq hN hS g5 e1 e2
    rw [← hX] at k0
    rw [← hY] at k1
    exact ⟨sign_of g1 (by omega) (g2 0 (by decide)).1 k0, sign_of g1 (by omega) (g2 1 (by decide)).1 k1, sign_of g1 hN0 (g2 2 (by decide)).1 k2, k0, k1, k2⟩
  · intro x0 y0 z0
    obtain ⟨k0, k1, k2⟩ := parts_of hN hS hX hY
    have hT2 := R.T2
    have n0 := R.n0; have o0 := R.o0; have h0 := R.h0
    have hw : T - (a + b + c) ≤ 10000000 := by omega
    have bw : 1000 * N * (T - (a + b + c)) ≤ 1000 * N * 10000000 := Int.mul_le_mul_of_nonneg_left hw (by omega)
    refine ⟨1000 * N, fun j => if j = 0 then X else if j = 1 then Y else if j = 2 then 1000 * Z else if j = 3 then 1000 * N * (T * o - 1000 * a) else 1000 * N * (T * h - 1000 * b), (plan_iff K _ _).2 ⟨by omega, fun j hj => ?_, ?_, ?_, ?_, ?_, ?_⟩⟩
    · rw [d4 j hj]
      rcases (by omega : j = 0 ∨ j = 1 ∨ j = 2) with rfl | rfl | rfl <;> simp <;> omega
    · simp only [c1]; simp
    · simp only [c2]; simp
    · rw [sm3]; simp; omega
    · rw [sm3, d01, d11, d21]; simp at k1 ⊢; omega
    · rw [sm3, d02, d12, d22]; simp at k2 ⊢; omega
end
noncomputable def srcD (p q c0 c1 c2 : Int) : Dat :=
  ((((((datS [SV.str ({ data := #[OfNat.ofNat 111, OfNat.ofNat 50] } : ByteArray), SV.int IntKind.i64 1000, SV.int IntKind.i64 0, SV.int IntKind.i64 0, SV.int IntKind.i64 0, SV.str ({ data := #[OfNat.ofNat 104, OfNat.ofNat 101] } : ByteArray), SV.int IntKind.i64 0, SV.int IntKind.i64 1000, SV.int IntKind.i64 0, SV.int IntKind.i64 0, SV.str ({ data := #[OfNat.ofNat 116, OfNat.ofNat 111, OfNat.ofNat 112] } : ByteArray), SV.int IntKind.i64 p, SV.int IntKind.i64 q, SV.int IntKind.i64 0, SV.int IntKind.i64 0] 5).upd 0 3 [SV.int IntKind.i64 c0]).upd 0 4 [SV.int IntKind.i64 10000000]).upd 1 3 [SV.int IntKind.i64 c1]).upd 1 4 [SV.int IntKind.i64 10000000]).upd 2 3 [SV.int IntKind.i64 c2]).upd 2 4 [SV.int IntKind.i64 10000000]
theorem l4_0_all (z0 a0 a1 a2 g0 g1 p q T c0 c1 c2 z1 z2 z3 z4 z5 z6 b0 b1 b2 b3 b4 b5 b6 b7 : Int) (f : Nat) :
    l4_0 z0 a0 a1 a2 g0 g1 p q T c0 c1 c2 z1 z2 z3 z4 z5 z6 b0 b1 b2 b3 b4 b5 b6 b7 (f + 4) 0 (t4_7 a0 a1 a2 g0 g1 p q T c0 c1 c2) = some (srcD p q c0 c1 c2) := by kernel_rfl
theorem l4_2_all (a0 a1 a2 g0 g1 p q T c0 c1 c2 z1 z2 z3 z4 z5 z6 b0 b1 b2 b3 b4 b5 b6 b7 den e0 e1 e2 e3 e4 e5 : Int) (d bp : Dat)
    (h1 : m32 z1 0 z2 = true) (h2 : m32 z3 0 z4 = true) (h3 : m32 z5 0 z6 = true) (k1 : decide (1000000000 < z2) = false) (k2 : decide (1000000000 < z4) = false) (k3 : decide (1000000000 < z6) = false)
    (j1 : m32 (bp.ii 0 0) (IntKind.i64.wrap (z1 * den)) (IntKind.i64.wrap (z2 * den)) = true) (j2 : m32 (bp.ii 1 0) (IntKind.i64.wrap (z3 * den)) (IntKind.i64.wrap (z4 * den)) = true) (j3 : m32 (bp.ii 2 0) (IntKind.i64.wrap (z5 * den)) (IntKind.i64.wrap (z6 * den)) = true) :
    o4_2 a0 a1 a2 g0 g1 p q T c0 c1 c2 z1 z2 z3 z4 z5 z6 b0 b1 b2 b3 b4 b5 b6 b7 d 3 bp den e0 e1 e2 e3 e4 e5 0 = some (false, default, ()) := by
  have i0 : intAt [SV.int IntKind.i64 z1, SV.int IntKind.i64 z2, SV.int IntKind.i64 z3, SV.int IntKind.i64 z4, SV.int IntKind.i64 z5, SV.int IntKind.i64 z6] 0 = z1 := rfl
  have i1 : intAt [SV.int IntKind.i64 z1, SV.int IntKind.i64 z2, SV.int IntKind.i64 z3, SV.int IntKind.i64 z4, SV.int IntKind.i64 z5, SV.int IntKind.i64 z6] 1 = z2 := rfl
  have i2 : intAt [SV.int IntKind.i64 z1, SV.int IntKind.i64 z2, SV.int IntKind.i64 z3, SV.int IntKind.i64 z4, SV.int IntKind.i64 z5, SV.int IntKind.i64 z6] 2 = z3 := rfl
  have i3 : intAt [SV.int IntKind.i64 z1, SV.int IntKind.i64 z2, SV.int IntKind.i64 z3, SV.int IntKind.i64 z4, SV.int IntKind.i64 z5, SV.int IntKind.i64 z6] 3 = z4 := rfl
  have i4 : intAt [SV.int IntKind.i64 z1, SV.int IntKind.i64 z2, SV.int IntKind.i64 z3, SV.int IntKind.i64 z4, SV.int IntKind.i64 z5, SV.int IntKind.i64 z6] 4 = z5 := rfl
  have i5 : intAt [SV.int IntKind.i64 z1, SV.int IntKind.i64 z2, SV.int IntKind.i64 z3, SV.int IntKind.i64 z4, SV.int IntKind.i64 z5, SV.int IntKind.i64 z6] 5 = z6 := rfl
  have w1 : IntKind.i64.wrap 1 = 1 := rfl
  have w2 : IntKind.i64.wrap 2 = 2 := rfl
  have w3 : IntKind.i64.wrap 3 = 3 := rfl
  have ef : 8 + a0.toNat = (a0.toNat + 4) + 1 + 1 + 1 + 1 := by omega
  unfold o4_2
  rw [ef]
  simp only [l4_2, i0, i1, i2, i3, i4, i5, w1, w2, w3, h1, h2, h3, k1, k2, k3, j1, j2, j3, decide_true, decide_false, and_self, and_true, true_and, cond_true, cond_false]
  simp [i0, i1, i2, i3, i4, i5, w1, w2, w3, h1, h2, h3, k1, k2, k3, j1, j2, j3]
theorem lawTwoWays (a b c o h p q T c0 c1 c2 : Int) : n4 a b c o h p q T c0 c1 c2 = true ∧ m4 a b c o h p q T c0 c1 c2 = true := by
  have e8 : t4_8 a b c o h p q T c0 c1 c2 = srcD p q c0 c1 c2 := by
    unfold t4_8 o4_0
    rw [show 8 + (t4_0 a b c o h p q T c0 c1 c2).toNat = ((t4_0 a b c o h p q T c0 c1 c2).toNat + 4) + 4 by omega, l4_0_all]
    rfl
  have o40 : (o4_0 (t4_0 a b c o h p q T c0 c1 c2) a b c o h p q T c0 c1 c2 (t4_1 a b c o h p q T c0 c1 c2) (t4_2 a b c o h p q T c0 c1 c2) (t4_3 a b c o h p q T c0 c1 c2) (t4_4 a b c o h p q T c0 c1 c2) (t4_5 a b c o h p q T c0 c1 c2) (t4_6 a b c o h p q T c0 c1 c2) a b c T o o h h 0 (t4_7 a b c o h p q T c0 c1 c2)).isSome = true := by
    unfold o4_0
    rw [show 8 + (t4_0 a b c o h p q T c0 c1 c2).toNat = ((t4_0 a b c o h p q T c0 c1 c2).toNat + 4) + 4 by omega, l4_0_all]
    rfl
  have e36 : ∀ n d b1 b2 b3 T ol oh hl hh, m36r n d b1 b2 b3 T ol oh hl hh = (n, b1, b2, b3, T, ol, oh, hl, hh, n, d) := fun n d b1 b2 b3 T ol oh hl hh => by simp only [m36r, app_zero, Nat.zero_add]
  have a36 : ∀ d b1 b2 b3 T ol oh hl hh, n36r 3 d b1 b2 b3 T ol oh hl hh = true := fun d b1 b2 b3 T ol oh hl hh => by simp [n36r]
  generalize hd : srcD p q c0 c1 c2 = d at *
  have hs : ∀ i, i < 3 → (d.ss i 0).size ≤ 9223372036854775807 := fun i hi => by
    subst hd
    rcases (by omega : i = 0 ∨ i = 1 ∨ i = 2) with rfl | rfl | rfl
    · exact Nat.le_trans (Nat.le_of_eq (rfl : _ = 2)) (by decide)
    · exact Nat.le_trans (Nat.le_of_eq (rfl : _ = 2)) (by decide)
    · exact Nat.le_trans (Nat.le_of_eq (rfl : _ = 3)) (by decide)
  have d01 : d.ii 0 1 = 1000 := by subst hd; rfl
  have d02 : d.ii 0 2 = 0 := by subst hd; rfl
  have d11 : d.ii 1 1 = 0 := by subst hd; rfl
  have d12 : d.ii 1 2 = 1000 := by subst hd; rfl
  have d21 : d.ii 2 1 = p := by subst hd; rfl
  have d22 : d.ii 2 2 = q := by subst hd; rfl
  have d4 : ∀ i, i < 3 → d.ii i 4 = 10000000 := fun i hi => by
    subst hd
    rcases (by omega : i = 0 ∨ i = 1 ∨ i = 2) with rfl | rfl | rfl <;> rfl
  obtain ⟨_, n34t, _⟩ := task_both 3 (by decide) d hs a b c T o o h h
  have z3 : decide ((3 : Nat) ≤ 3) = true := rfl
  have k120 : decide ((12 : Int) = 0) = false := rfl
  have k012 : decide ((0 : Int) = 12) = false := rfl
  have k33 : decide (((3 : Nat) : Int) = 3) = true := rfl
  by_cases hG : m26 a b c = 0 ∧ m32 T (imax 1 (m29 a b c)) 10000000 = true
  rotate_left
  · have hg : (bif (bif decide (m26 a b c = 0) then false else true) then true else (bif m32 T (imax 1 (m29 a b c)) 10000000 then false else true)) = true := by
      by_cases h1 : m26 a b c = 0
      · cases h2 : m32 T (imax 1 (m29 a b c)) 10000000 with
        | true => exact absurd ⟨h1, h2⟩ hG
        | false => rw [decide_eq_true h1]; rfl
      · rw [decide_eq_false h1]; rfl
    constructor
    · simp only [n4, v4, n18_val, m18_val, hg, cond_true, cond_false]; rfl
    · simp only [m4, w4, m18_val, hg, cond_true, cond_false]
  obtain ⟨h17, h32⟩ := hG
  have hg : (bif (bif decide (m26 a b c = 0) then false else true) then true else (bif m32 T (imax 1 (m29 a b c)) 10000000 then false else true)) = false := by rw [h17, h32]; rfl
  obtain ⟨⟨ha, _⟩, ⟨hb, _⟩, ⟨hc, _⟩, hS, _⟩ := e26 h17
  have hT := m32_iff.1 h32
  rw [hS] at hT
  have hle : a + b + c ≤ T := by have := hT.1; unfold imax at this; split at this <;> omega
  obtain ⟨n33t, hp⟩ := part_all (o := o) (h := h) (p := p) (q := q) h17 hle hT.2
  rcases hp with ⟨e, e33, he0, he12⟩ | ⟨X, Y, Z, N, N0, N1, hN, hZ, hX, hY, hp⟩
  · have t0 : t4_0 a b c o h p q T c0 c1 c2 = e := by simp only [t4_0, e33]
    constructor
    · simp only [n4, v4, n18_val, m18_val, hg, n33t, t0, decide_eq_false he0, decide_eq_false he12, cond_true, cond_false]; rfl
    · simp only [m4, w4, m18_val, hg, t0, decide_eq_false he0, decide_eq_false he12, cond_true, cond_false]
  by_cases h34 : m34 3 d a b c T o o h h = 0
  rotate_left
  · rcases hp with ⟨e33, _⟩ | ⟨_, _, _, e33⟩
    · have t0 : t4_0 a b c o h p q T c0 c1 c2 = 12 := by simp only [t4_0, e33]
      have zz : (bif (bif decide ((12 : Int) = 0) then false else true) then (bif decide ((12 : Int) = 12) then false else true) else false) = false := rfl
      rw [t0] at o40
      constructor
      · simp only [n4, v4, n18_val, m18_val, hg, n33t, t0, k120, k012, k33, decide_true, o40, e8, n34t, decide_eq_false h34, cond_true, cond_false]; rfl
      · simp only [m4, w4, m18_val, hg, t0, k120, k012, k33, decide_true, e8, decide_eq_false h34, cond_true, cond_false]
    · have t0 : t4_0 a b c o h p q T c0 c1 c2 = 0 := by simp only [t4_0, e33]
      have zz : (bif (bif decide ((0 : Int) = 0) then false else true) then (bif decide ((0 : Int) = 12) then false else true) else false) = false := rfl
      rw [t0] at o40
      constructor
      · simp only [n4, v4, n18_val, m18_val, hg, n33t, t0, k120, k012, k33, decide_true, o40, e8, n34t, decide_eq_false h34, cond_true, cond_false]; rfl
      · simp only [m4, w4, m18_val, hg, t0, k120, k012, k33, decide_true, e8, decide_eq_false h34, cond_true, cond_false]
  obtain ⟨two, one⟩ := two_plan h34 hs d01 d02 d11 d12 d21 d22 d4 hN N0 hZ hX hY
  obtain ⟨n35t, f⟩ := fill_good 3 (by decide) d hs a b c T o o h h h34
  have t9 : t4_9 a b c o h p q T c0 c1 c2 = 3 := by simp only [t4_9, e8, e36]
  have t10 : t4_10 a b c o h p q T c0 c1 c2 = d := by simp only [t4_10, e8, e36]
  have t11 : t4_11 a b c o h p q T c0 c1 c2 = a := by simp only [t4_11, e8, e36]
  have t12 : t4_12 a b c o h p q T c0 c1 c2 = b := by simp only [t4_12, e8, e36]
  have t13 : t4_13 a b c o h p q T c0 c1 c2 = c := by simp only [t4_13, e8, e36]
  have t14 : t4_14 a b c o h p q T c0 c1 c2 = T := by simp only [t4_14, e8, e36]
  have t15 : t4_15 a b c o h p q T c0 c1 c2 = o := by simp only [t4_15, e8, e36]
  have t16 : t4_16 a b c o h p q T c0 c1 c2 = o := by simp only [t4_16, e8, e36]
  have t17 : t4_17 a b c o h p q T c0 c1 c2 = h := by simp only [t4_17, e8, e36]
  have t18 : t4_18 a b c o h p q T c0 c1 c2 = h := by simp only [t4_18, e8, e36]
  rcases hp with ⟨e33, hneg⟩ | ⟨x0, y0, z0, e33⟩
  · have t0 : t4_0 a b c o h p q T c0 c1 c2 = 12 := by simp only [t4_0, e33]
    have zz : (bif (bif decide ((12 : Int) = 0) then false else true) then (bif decide ((12 : Int) = 12) then false else true) else false) = false := rfl
    have zy : decide ((12 : Int) = 12) = true := rfl
    rcases f with ⟨bp, den, W, a', b', c', e', q', _, _, _, hP, _⟩ | ⟨W, a', b', c', e', q', f1, _, _⟩
    · obtain ⟨r0, r1, r2, _⟩ := two den _ hP
      omega
    · have t19 : t4_19 a b c o h p q T c0 c1 c2 = 12 := by simp only [t4_19, t9, t10, t11, t12, t13, t14, t15, t16, t17, t18, f1]
      rw [t0] at o40
      constructor
      · simp only [n4, v4, n18_val, m18_val, hg, n33t, t0, k120, k012, k33, decide_true, o40, e8, n34t, h34, a36, e36, z3, t9, t10, t11, t12, t13, t14, t15, t16, t17, t18, n35t, decide_true, cond_true, cond_false]; rfl
      · simp only [m4, w4, m18_val, hg, t0, k120, k012, k33, decide_true, e8, h34, t19, decide_true, cond_true, cond_false]
  · have t0 : t4_0 a b c o h p q T c0 c1 c2 = 0 := by simp only [t4_0, e33]
    have zz : (bif (bif decide ((0 : Int) = 0) then false else true) then (bif decide ((0 : Int) = 12) then false else true) else false) = false := rfl
    have zy : decide ((0 : Int) = 12) = false := rfl
    obtain ⟨D0, V0, hP0⟩ := one x0 y0 z0
    rcases f with ⟨bp, den, W, a', b', c', e', q', f1, _, _, hP, hden, _⟩ | ⟨W, a', b', c', e', q', _, _, f3⟩
    rotate_left
    · exact (f3 D0 V0 hP0).elim
    obtain ⟨_, _, _, u0, u1, u2⟩ := two den _ hP
    have v0 : xOf 3 d bp 0 = bp.ii 0 0 := rfl
    have v1 : xOf 3 d bp 1 = bp.ii 1 0 := rfl
    have v2 : xOf 3 d bp 2 = bp.ii 2 0 := rfl
    rw [v0] at u0
    rw [v1] at u1
    rw [v2] at u2
    have s1 : t4_1 a b c o h p q T c0 c1 c2 = X / (1000 * N) := by simp only [t4_1, e33]
    have s2 : t4_2 a b c o h p q T c0 c1 c2 = -((-X) / (1000 * N)) := by simp only [t4_2, e33]
    have s3 : t4_3 a b c o h p q T c0 c1 c2 = Y / (1000 * N) := by simp only [t4_3, e33]
    have s4 : t4_4 a b c o h p q T c0 c1 c2 = -((-Y) / (1000 * N)) := by simp only [t4_4, e33]
    have s5 : t4_5 a b c o h p q T c0 c1 c2 = Z / N := by simp only [t4_5, e33]
    have s6 : t4_6 a b c o h p q T c0 c1 c2 = -((-Z) / N) := by simp only [t4_6, e33]
    have t19 : t4_19 a b c o h p q T c0 c1 c2 = 0 := by simp only [t4_19, t9, t10, t11, t12, t13, t14, t15, t16, t17, t18, f1]
    have t20 : t4_20 a b c o h p q T c0 c1 c2 = 3 := by simp only [t4_20, t9, t10, t11, t12, t13, t14, t15, t16, t17, t18, f1]
    have t21 : t4_21 a b c o h p q T c0 c1 c2 = den := by simp only [t4_21, t9, t10, t11, t12, t13, t14, t15, t16, t17, t18, f1]
    have t22 : t4_22 a b c o h p q T c0 c1 c2 = bp := by simp only [t4_22, t9, t10, t11, t12, t13, t14, t15, t16, t17, t18, f1]
    -- sizes
    have hS2 : (T * o - 1000 * a) + (T * h - 1000 * b) + Z = 1000 * (T - (a + b + c)) := by rw [hZ]; grind
    obtain ⟨k0, _, _⟩ := parts_of (w := T - (a + b + c)) hN hS2 hX hY
    have bw : 1000 * N * (T - (a + b + c)) ≤ 1000 * N * 10000000 := Int.mul_le_mul_of_nonneg_left (by omega) (by omega)
    have small : ∀ {x K : Int}, 0 < K → 0 ≤ x → x ≤ K * 10000000 → 0 ≤ x / K ∧ x / K ≤ -((-x) / K) ∧ -((-x) / K) ≤ 10000001 := fun {x K} hK hx hxK => by
      obtain ⟨f0, f1, f2, f3, f4⟩ := TW.fl_props hK hx
      refine ⟨f0, f1, ?_⟩
      have : x / K ≤ 10000000 := by
        apply Int.le_of_mul_le_mul_left _ hK
        omega
      omega
    have sX := small (x := X) (K := 1000 * N) (by omega) x0 (by omega)
    have sY := small (x := Y) (K := 1000 * N) (by omega) y0 (by omega)
    have sZ := small (x := Z) (K := N) N0 z0 (by omega)
    have wX := TW.within_of (D := den) (K := 1000 * N) (by omega) (by omega) x0 u0
    have wY := TW.within_of (D := den) (K := 1000 * N) (by omega) (by omega) y0 u1
    have wZ := TW.within_of (D := den) (K := N) (by omega) (by omega) z0 u2
    have wb : ∀ {x : Int}, 0 ≤ x → x ≤ 10000001 → IntKind.i64.wrap (x * den) = x * den := fun {x} a1 a2 => by
      have := mulb a1 a2 (show 0 ≤ den by omega) hden.2
      exact wr (by omega) (by omega)
    have hl : (o4_2 a b c o h p q T c0 c1 c2 (X / (1000 * N)) (-((-X) / (1000 * N))) (Y / (1000 * N)) (-((-Y) / (1000 * N))) (Z / N) (-((-Z) / N)) a b c T o o h h d 3 bp den (t4_23 a b c o h p q T c0 c1 c2) (t4_24 a b c o h p q T c0 c1 c2) (t4_25 a b c o h p q T c0 c1 c2) (t4_26 a b c o h p q T c0 c1 c2) (t4_27 a b c o h p q T c0 c1 c2) (t4_28 a b c o h p q T c0 c1 c2) 0) = some (false, default, ()) := by
      refine l4_2_all _ _ _ _ _ _ _ _ _ _ _ _ _ _ _ _ _ _ _ _ _ _ _ _ _ _ _ _ _ _ _ _ _ _ (m32_iff.2 ⟨sX.1, sX.2.1⟩) (m32_iff.2 ⟨sY.1, sY.2.1⟩) (m32_iff.2 ⟨sZ.1, sZ.2.1⟩) (decide_eq_false (by omega)) (decide_eq_false (by omega)) (decide_eq_false (by omega)) ?_ ?_ ?_
      · rw [wb sX.1 (by omega), wb (by omega) sX.2.2]; exact m32_iff.2 wX
      · rw [wb sY.1 (by omega), wb (by omega) sY.2.2]; exact m32_iff.2 wY
      · rw [wb sZ.1 (by omega), wb (by omega) sZ.2.2]; exact m32_iff.2 wZ
    have z5 : (bif (bif (bif decide ((0 : Int) = 0) then false else true) then true else (bif decide (((3 : Nat) : Int) = 3) then false else true)) then true else (bif m32 den 1 1000000 then false else true)) = false := by rw [m32_iff.2 hden]; rfl
    rw [t0, s1, s2, s3, s4, s5, s6] at o40
    constructor
    · simp only [n4, v4, n18_val, m18_val, hg, n33t, t0, k120, k012, k33, decide_true, o40, e8, n34t, h34, a36, e36, z3, s1, s2, s3, s4, s5, s6, t9, t10, t11, t12, t13, t14, t15, t16, t17, t18, t19, t20, t21, t22, hl, m32_iff.2 hden, n35t, decide_true, cond_true, cond_false, Option.isSome_some]; rfl
    · simp only [m4, w4, m18_val, hg, t0, k120, k012, k33, decide_true, e8, h34, s1, s2, s3, s4, s5, s6, t19, t20, t21, t22, hl, m32_iff.2 hden, decide_true, cond_true, cond_false, Option.getD_some]
end Go.Proofs.Ytmndejpcpfkajaa

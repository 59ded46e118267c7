/-
  The plain law of 'MixMatches': the law's model is true, and its need. Conditions: none.
-/
import Derived.Test.YtmjcegbnbnbceaaH1
import Derived.Test.YtmjcegbnbnbceaaH2
import Derived.Test.YtmjcegbnbnbceaaH3
import Derived.Test.YtmjcegbnbnbceaaHE1
import Derived.Test.YtmjcegbnbnbceaaHE1
import Derived.KernelRfl
namespace Go.Proofs.Ytmjcegbnbnbceaa
open Go Go.Sy
set_option linter.unusedVariables false
theorem wr {n : Int} (h0 : -9223372036854775808 ≤ n) (h1 : n ≤ 9223372036854775807) : IntKind.i64.wrap n = n := by
  simp [IntKind.wrap, IntKind.bits, IntKind.signed]; omega
theorem mulb {x y A B : Int} (hx0 : 0 ≤ x) (hx : x ≤ A) (hy0 : 0 ≤ y) (hy : y ≤ B) : 0 ≤ x * y ∧ x * y ≤ A * B :=
  ⟨Int.mul_nonneg hx0 hy0, Int.mul_le_mul hx hy hy0 (Int.le_trans hx0 hx)⟩
theorem e71 (a b c : Int) : m71 a b c = m17 a b c ∧ n71 a b c = true := by
  have h : o141c111_0 ((↑3 : Int) - 0).toNat (datS [SV.int IntKind.i64 a, SV.int IntKind.i64 b, SV.int IntKind.i64 c] 1) (↑(((↑3 : Int) - 0).toNat) : Int) 0 = cond (m111 a) (some (true, 0, default)) (cond (m111 b) (some (true, 1, default)) (cond (m111 c) (some (true, 2, default)) (some (false, default, ())))) := by kernel_rfl
  have e : ∀ x, m111 x = !(m18 x 0 1000000000) := fun x => by simp only [m111, m73, m18]; cases (bif decide ((0 : Int) ≤ x) then decide (x ≤ 1000000000) else false) <;> rfl
  have e74 : m74 a b c = m19 a b c := rfl
  constructor
  · simp only [m71, m72, m110c111, m141c111, h, m17, e, e74]
    cases m18 a 0 1000000000 <;> cases m18 b 0 1000000000 <;> cases m18 c 0 1000000000 <;> simp
  · simp only [n71, m72, n110c111, n141c111, h, e]
    cases m18 a 0 1000000000 <;> cases m18 b 0 1000000000 <;> cases m18 c 0 1000000000 <;> rfl
theorem e81 (a b : Int) : m81 a b = m83 a b ∧ n81 a b = true := by
  have h : ∀ x y : Int, o117_0 2 (datS [SV.int IntKind.i64 x, SV.int IntKind.i64 y] 1) (↑(2 : Nat) : Int) 0 = cond (bif decide (x = 0) then false else true) (some (true, x, default)) (cond (bif decide (y = 0) then false else true) (some (true, y, default)) (some (false, default, ()))) := fun x y => by kernel_rfl
  have e : ∀ x, m118 x 0 1000 = cond (m18 x 0 1000) 0 2 := fun x => by
    have : m144 x 0 1000 = m18 x 0 1000 := rfl
    simp only [m118, this]; cases m18 x 0 1000 <;> rfl
  constructor
  · simp only [m81, m117, h, m83, e]
    cases m18 a 0 1000 <;> cases m18 b 0 1000 <;> simp
  · simp only [n81, n117, h, e]
    cases m18 a 0 1000 <;> cases m18 b 0 1000 <;> simp
theorem e17 {a b c : Int} (h : m17 a b c = 0) : (0 ≤ a ∧ a ≤ 1000000000) ∧ (0 ≤ b ∧ b ≤ 1000000000) ∧ (0 ≤ c ∧ c ≤ 1000000000) ∧ m19 a b c = a + b + c ∧ a + b + c ≤ 1000000000 := by
  have hs : (0 ≤ a ∧ a ≤ 1000000000) ∧ (0 ≤ b ∧ b ≤ 1000000000) ∧ (0 ≤ c ∧ c ≤ 1000000000) ∧ ¬ 1000000000 < m19 a b c := by
    simp only [m17, m18] at h
    by_cases h1 : 0 ≤ a <;> by_cases h2 : a ≤ 1000000000 <;> by_cases h3 : 0 ≤ b <;> by_cases h4 : b ≤ 1000000000 <;> by_cases h5 : 0 ≤ c <;> by_cases h6 : c ≤ 1000000000 <;> simp [h1, h2, h3, h4, h5, h6] at h ⊢
    by_cases h7 : 1000000000 < m19 a b c
    · simp [h7] at h
    · omega
  obtain ⟨h1, h2, h3, h4⟩ := hs
  have hw : IntKind.i64.wrap (a + b) = a + b := wr (by omega) (by omega)
  have : m19 a b c = a + b + c := by rw [m19, hw, wr (by omega) (by omega)]
  exact ⟨h1, h2, h3, this, by omega⟩
theorem e83 {a b : Int} (h : m83 a b = 0) : (0 ≤ a ∧ a ≤ 1000) ∧ (0 ≤ b ∧ b ≤ 1000) := by
  simp only [m83, m18] at h
  by_cases h1 : 0 ≤ a <;> by_cases h2 : a ≤ 1000 <;> by_cases h3 : 0 ≤ b <;> by_cases h4 : b ≤ 1000 <;> simp [h1, h2, h3, h4] at h ⊢
/-- Within the tolerance. -/
theorem e82 {a b c x o t : Int} (hx : 0 ≤ x ∧ x ≤ 1000000000) (ho : 0 ≤ o ∧ o ≤ 1000) (ht : 0 ≤ t ∧ t ≤ 1000) (hS : m19 a b c = a + b + c) (h0 : 0 ≤ a + b + c) (h1 : a + b + c ≤ 1000000000) :
    m82 x o (datC [SV.int IntKind.i64 a, SV.int IntKind.i64 b, SV.int IntKind.i64 c]) (datC [SV.int IntKind.i64 t]) = decide (-(t * (a + b + c)) ≤ 1000 * x - o * (a + b + c) ∧ 1000 * x - o * (a + b + c) ≤ t * (a + b + c)) ∧
    m18 (IntKind.i64.wrap (IntKind.i64.wrap (1000 * x) - IntKind.i64.wrap (o * m19 a b c))) (IntKind.i64.wrap (0 - IntKind.i64.wrap (t * m19 a b c))) (IntKind.i64.wrap (t * m19 a b c)) = decide (-(t * (a + b + c)) ≤ 1000 * x - o * (a + b + c) ∧ 1000 * x - o * (a + b + c) ≤ t * (a + b + c)) := by
  have hm : m74 ((datC [SV.int IntKind.i64 a, SV.int IntKind.i64 b, SV.int IntKind.i64 c]).ii 0 0) ((datC [SV.int IntKind.i64 a, SV.int IntKind.i64 b, SV.int IntKind.i64 c]).ii 0 (0 + 1)) ((datC [SV.int IntKind.i64 a, SV.int IntKind.i64 b, SV.int IntKind.i64 c]).ii 0 (0 + 1 + 1)) = a + b + c := hS
  have ht' : (datC [SV.int IntKind.i64 t]).ii 0 0 = t := rfl
  have p := mulb ho.1 ho.2 h0 h1
  have q := mulb ht.1 ht.2 h0 h1
  simp only [m82, hm, ht', hS, m18]
  generalize o * (a + b + c) = u at *
  generalize t * (a + b + c) = v at *
  rw [wr (n := 1000 * x) (by omega) (by omega), wr (n := u) (by omega) (by omega), wr (n := v) (by omega) (by omega), wr (n := 1000 * x - u) (by omega) (by omega), wr (n := 0 - (1000 * x - u)) (by omega) (by omega), wr (n := 0 - v) (by omega) (by omega)]
  refine ⟨decide_eq_decide.2 ?_, ?_⟩
  · unfold imax
    split <;> omega
  · by_cases h1 : 0 - v ≤ 1000 * x - u <;> by_cases h2 : 1000 * x - u ≤ v <;> simp [h1, h2] <;> omega
theorem bnz (x : Int) : (bif decide (x = 0) then false else true) = !decide (x = 0) := by cases decide (x = 0) <;> rfl
/-- What both compute. -/
def outM (a b c o h t : Int) : Bool := decide (-(t * (a + b + c)) ≤ 1000 * a - o * (a + b + c) ∧ 1000 * a - o * (a + b + c) ≤ t * (a + b + c)) && decide (-(t * (a + b + c)) ≤ 1000 * b - h * (a + b + c) ∧ 1000 * b - h * (a + b + c) ≤ t * (a + b + c))
theorem e33 (a b c o h t : Int) : n33 a b c o h t = true ∧ m33 a b c o h t = m34 a b c o h t ∧ ((m34 a b c o h t).2 = 0 → 0 ≤ t ∧ t ≤ 1000 ∧ m17 a b c = 0 ∧ m83 o h = 0 ∧ m19 a b c ≠ 0 ∧ (m34 a b c o h t).1 = outM a b c o h t) := by
  have h71 := e71 a b c
  have h81 := e81 o h
  have h74 : m74 a b c = m19 a b c := rfl
  have h73 : m73 t 0 1000 = m18 t 0 1000 := rfl
  simp only [m33, n33, m34, m72, h71.1, h71.2, h81.1, h81.2, h74, h73, bnz]
  by_cases h1 : m17 a b c = 0
  · by_cases h2 : m83 o h = 0
    · by_cases h3 : m19 a b c = 0
      · simp [h1, h2, h3]
      · by_cases h4 : m18 t 0 1000 = true
        · obtain ⟨ha, hb, hc, hS, hle⟩ := e17 h1
          obtain ⟨ho, hh⟩ := e83 h2
          have ht : 0 ≤ t ∧ t ≤ 1000 := by
            simp only [m18] at h4
            by_cases k1 : 0 ≤ t <;> by_cases k2 : t ≤ 1000 <;> simp [k1, k2] at h4 ⊢
          have A := e82 (a := a) (b := b) (c := c) (x := a) (o := o) (t := t) ha ho ht hS (by omega) hle
          have B := e82 (a := a) (b := b) (c := c) (x := b) (o := h) (t := t) hb hh ht hS (by omega) hle
          simp only [A.1, A.2, B.1, B.2, outM]
          simp [h1, h2, h3, h4, ht]
        · simp only [Bool.not_eq_true] at h4
          simp [h1, h2, h3, h4]
    · simp [h1, h2]
  · simp [h1]
theorem outM_mono {a b c o h t : Int} (hs : 0 ≤ a + b + c) (hm : outM a b c o h t = true) : outM a b c o h (t + 1) = true := by
  simp only [outM, Bool.and_eq_true, decide_eq_true_eq] at hm ⊢
  have : (t + 1) * (a + b + c) = t * (a + b + c) + (a + b + c) := by rw [Int.add_mul, Int.one_mul]
  rw [this]
  omega
theorem lawMatches (a b c o h t : Int) : n6 a b c o h t = true ∧ m6 a b c o h t = true := by
  obtain ⟨p1, p2, p3⟩ := e33 a b c o h t
  by_cases h0 : (m34 a b c o h t).2 = 0
  · obtain ⟨t0, t1, q1, q2, q3, q4⟩ := p3 h0
    obtain ⟨ha, hb, hc, hS, hle⟩ := e17 q1
    have hw : IntKind.i64.wrap (t + 1) = t + 1 := wr (by omega) (by omega)
    obtain ⟨r1, r2, r3⟩ := e33 a b c o h (t + 1)
    simp only [m6, n6, n15_true, m15_true, p1, p2, hw, r1, r2, bnz]
    by_cases ht : t = 1000
    · simp [h0, ht]
    · by_cases h5 : (m34 a b c o h (t + 1)).2 = 0
      · obtain ⟨_, _, _, _, _, s4⟩ := r3 h5
        rw [q4, s4]
        cases hm : outM a b c o h t
        · simp [h0, ht, h5]
        · simp [h0, ht, h5, outM_mono (by omega) hm]
      · exfalso
        apply h5
        have k : m18 (t + 1) 0 1000 = true := by simp only [m18]; simp; omega
        simp only [m34, bnz, q1, q2, k]
        simp [q3]
  · simp only [m6, n6, n15_true, m15_true, p1, p2, bnz]
    simp [h0]
#print axioms lawMatches
end Go.Proofs.Ytmjcegbnbnbceaa

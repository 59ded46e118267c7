/-
 The plain law of 'MixMatches': the law's model is true, and its need. Conditions: none.
-/
import Derived.KernelRfl
import Derived.Test.YtmndejpcpfkajaaBFFillMixed
namespace Go.Proofs.Ytmndejpcpfkajaa
open Go Go.Sy
set_option linter.unusedVariables false
theorem wr {n : Int} (h0 : -9223372036854775808 ≤ n) (h1 : n ≤ 9223372036854775807) : IntKind.i64.wrap n = n := by
 simp [IntKind.wrap, IntKind.bits, IntKind.signed]; omega
theorem mulb {x y A B : Int} (hx0 : 0 ≤ x) (hx : x ≤ A) (hy0 : 0 ≤ y) (hy : y ≤ B) : 0 ≤ x * y ∧ x * y ≤ A * B :=
 ⟨Int.mul_nonneg hx0 hy0, Int.mul_le_mul hx hy hy0 (Int.le_trans hx0 hx)⟩
theorem e81 (a b c : Int) : m81 a b c = m26 a b c ∧ n81 a b c = true := by
 have h : o151c121_0 ((↑3 : Int) - 0).toNat (datS [SV.int IntKind.i64 a, SV.int IntKind.i64 b, SV.int IntKind.i64 c] 1) (↑(((↑3 : Int) - 0).toNat) : Int) 0 = cond (m121 a) (some (true, 0, default)) (cond (m121 b) (some (true, 1, default)) (cond (m121 c) (some (true, 2, default)) (some (false, default, ())))) := by kernel_rfl
 have e : ∀ x, m121 x = !(m32 x 0 1000000000) := fun x => by simp only [m121, m83, m32]; cases (bif decide ((0 : Int) ≤ x) then decide (x ≤ 1000000000) else false) <;> rfl
 have e74 : m84 a b c = m29 a b c := rfl
 constructor
 ·simp only [m81, m82, m120c121, m151c121, h, m26, e, e74]
  cases m32 a 0 1000000000 <;> cases m32 b 0 1000000000 <;> cases m32 c 0 1000000000 <;> simp
 ·simp only [n81, m82, n120c121, n151c121, h, e]
  cases m32 a 0 1000000000 <;> cases m32 b 0 1000000000 <;> cases m32 c 0 1000000000 <;> rfl
theorem e88 (a b : Int) : m88 a b = m91 a b ∧ n88 a b = true := by
 have h : ∀ x y : Int, o132_0 2 (datS [SV.int IntKind.i64 x, SV.int IntKind.i64 y] 1) (↑(2 : Nat) : Int) 0 = cond (bif decide (x = 0) then false else true) (some (true, x, default)) (cond (bif decide (y = 0) then false else true) (some (true, y, default)) (some (false, default, ()))) := fun x y => by kernel_rfl
 have e : ∀ x, m133 x 0 1000 = cond (m32 x 0 1000) 0 2 := fun x => by
  have : m154 x 0 1000 = m32 x 0 1000 := rfl
  simp only [m133, this]; cases m32 x 0 1000 <;> rfl
 constructor
 ·simp only [m88, m132, h, m91, e]
  cases m32 a 0 1000 <;> cases m32 b 0 1000 <;> simp
 ·simp only [n88, n132, h, e]
  cases m32 a 0 1000 <;> cases m32 b 0 1000 <;> simp
theorem e26 {a b c : Int} (h : m26 a b c = 0) : (0 ≤ a ∧ a ≤ 1000000000) ∧ (0 ≤ b ∧ b ≤ 1000000000) ∧ (0 ≤ c ∧ c ≤ 1000000000) ∧ m29 a b c = a + b + c ∧ a + b + c ≤ 1000000000 := by
 have hs : (0 ≤ a ∧ a ≤ 1000000000) ∧ (0 ≤ b ∧ b ≤ 1000000000) ∧ (0 ≤ c ∧ c ≤ 1000000000) ∧ ¬ 1000000000 < m29 a b c := by
  simp only [m26, m32] at h
  by_cases h1 : 0 ≤ a <;> by_cases h2 : a ≤ 1000000000 <;> by_cases h3 : 0 ≤ b <;> by_cases h4 : b ≤ 1000000000 <;> by_cases h5 : 0 ≤ c <;> by_cases h6 : c ≤ 1000000000 <;> simp [h1, h2, h3, h4, h5, h6] at h ⊢
  by_cases h7 : 1000000000 < m29 a b c
  ·simp [h7] at h
  ·omega
 obtain ⟨h1, h2, h3, h4⟩ := hs
 have hw : IntKind.i64.wrap (a + b) = a + b := wr (by omega) (by omega)
 have : m29 a b c = a + b + c := by rw [m29, hw, wr (by omega) (by omega)]
 exact ⟨h1, h2, h3, this, by omega⟩
theorem e91 {a b : Int} (h : m91 a b = 0) : (0 ≤ a ∧ a ≤ 1000) ∧ (0 ≤ b ∧ b ≤ 1000) := by
 simp only [m91, m32] at h
 by_cases h1 : 0 ≤ a <;> by_cases h2 : a ≤ 1000 <;> by_cases h3 : 0 ≤ b <;> by_cases h4 : b ≤ 1000 <;> simp [h1, h2, h3, h4] at h ⊢
end Go.Proofs.Ytmndejpcpfkajaa

/-
  The plain law of 'MixMatches': the law's model is true, and its need. Conditions: none.
-/
import Derived.Test.YtmjcegbnbnbceaaL1
import Derived.Test.YtmjcegbnbnbceaaL2
import Derived.Test.YtmjcegbnbnbceaaL3
import Derived.Test.YtmjcegbnbnbceaaL4
import Derived.KernelRfl
import Derived.Test.YtmjcegbnbnbceaaLFContents
import Derived.Test.YtmjcegbnbnbceaaLE1
namespace Go.Proofs.Ytmjcegbnbnbceaa
open Go Go.Sy
set_option linter.unusedVariables false
theorem wr {n : Int} (h0 : -9223372036854775808 ≤ n) (h1 : n ≤ 9223372036854775807) : IntKind.i64.wrap n = n := by
  simp [IntKind.wrap, IntKind.bits, IntKind.signed]; omega
theorem mulb {x y A B : Int} (hx0 : 0 ≤ x) (hx : x ≤ A) (hy0 : 0 ≤ y) (hy : y ≤ B) : 0 ≤ x * y ∧ x * y ≤ A * B :=
  ⟨Int.mul_nonneg hx0 hy0, Int.mul_le_mul hx hy hy0 (Int.le_trans hx0 hx)⟩
theorem e81 (a b : Int) : m81 a b = m83 a b ∧ n81 a b = true := by
  have h : ∀ x y : Int, o117_0 2 (datS [SV.int IntKind.i64 x, SV.int IntKind.i64 y] 1) (↑(2 : Nat) : Int) 0 = cond (bif decide (x = 0) then false else true) (some (true, x, default)) (cond (bif decide (y = 0) then false else true) (some (true, y, default)) (some (false, default, ()))) := fun x y => by kernel_rfl
  have e : ∀ x, m118 x 0 1000 = cond (m18 x 0 1000) 0 2 := fun x => by
    have : m144 x 0 1000 = m18 x 0 1000 := rfl
    simp only [m118, this]; cases m18 x 0 1000 <;> rfl
  constructor
  · simp only [m81, m117, h, m83, e]
    cases m18 a 0 1000 <;> cases m18 b 0 1000 <;> simp
  · simp only [n81, n117, h, e]
    cases m18 a 0 1000 <;> cases m18 b 0 1000 <;> simp
theorem e83 {a b : Int} (h : m83 a b = 0) : (0 ≤ a ∧ a ≤ 1000) ∧ (0 ≤ b ∧ b ≤ 1000) := by
  simp only [m83, m18] at h
  by_cases h1 : 0 ≤ a <;> by_cases h2 : a ≤ 1000 <;> by_cases h3 : 0 ≤ b <;> by_cases h4 : b ≤ 1000 <;> simp [h1, h2, h3, h4] at h ⊢
end Go.Proofs.Ytmjcegbnbnbceaa

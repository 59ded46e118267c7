/-
 The plain law of 'MixFactors': the law's model is true, and its need. Conditions: none.
-/
import Derived.Test.YtmndejpcpfkajaaBPCheckN
namespace Go.Proofs.Ytmndejpcpfkajaa
open Go Go.Sy
set_option linter.unusedVariables false
set_option maxRecDepth 100000
attribute [local simp] brk
structure RightT (n : Nat) (d : Dat) : Prop where
 pos : 0 < n
 few : n ≤ 20
 P : ∀ i, i < n → 0 ≤ d.ii i 0 ∧ d.ii i 0 ≤ 400000
 L : ∀ i, i < n → 500 ≤ d.ii i 1 ∧ d.ii i 1 ≤ 2000
 H : ∀ i, i < n → 500 ≤ d.ii i 2 ∧ d.ii i 2 ≤ 2000
 up : ∀ i, i + 1 < n → d.ii i 0 < d.ii (i + 1) 0
theorem m32_iff {x a b : Int} : m32 x a b = true ↔ a ≤ x ∧ x ≤ b := by
 simp only [m32]
 by_cases h1 : a ≤ x <;> by_cases h2 : x ≤ b <;> simp [h1, h2]
theorem m32_f {x a b : Int} (h : ¬ (a ≤ x ∧ x ≤ b)) : m32 x a b = false := by
 cases hh : m32 x a b with
 | false => rfl
 | true => exact absurd (m32_iff.1 hh) h
theorem RightT.mono {n : Nat} {d : Dat} (T : RightT n d) {i : Nat} : ∀ {k : Nat}, i + k < n → d.ii i 0 + k ≤ d.ii (i + k) 0
 | 0, _ => by simp
 | k + 1, h => by
  have := T.mono (i := i) (k := k) (by omega)
  have := T.up (i + k) (by omega)
  have e : i + (k + 1) = i + k + 1 := by omega
  rw [e]
  omega
end Go.Proofs.Ytmndejpcpfkajaa

/-
 The plain law of 'MixDuals'. Conditions: none.
-/
import Derived.Test.YtmndejpcpfkajaaBPFill
namespace Go.Proofs.Ytmndejpcpfkajaa
open Go Go.Sy Lin
set_option linter.unusedVariables false
set_option linter.unusedSimpArgs false
set_option linter.unusedSectionVars false
set_option maxRecDepth 100000
section
variable (n : Nat) (hn : n ≤ 9223372036854775807) (d : Dat) (hs : ∀ i, i < n → (d.ss i 0).size ≤ 9223372036854775807) (b1 b2 b3 T ol oh hl hh : Int) (p : Nat) (dp : Dat) (den : Int)
include hn hs
theorem plan_is (h : m34 n d b1 b2 b3 T ol oh hl hh = 0) (hp : (m38 n d b1 b2 b3 T ol oh hl hh p dp den).2 = 0) :
  p = n ∧ (1 ≤ den ∧ den ≤ 1000000) ∧ (lpOf (askD n d b1 b2 b3 T ol oh hl hh)).Plan den (xOf n d dp) ∧ m97 (askD n d b1 b2 b3 T ol oh hl hh) p dp den = ((lpOf (askD n d b1 b2 b3 T ol oh hl hh)).cost (xOf n d dp), 0) := by
 have K := askK_of (rightK_of hn hs h)
 obtain ⟨_, _, e1⟩ := good_plan n hn d hs b1 b2 b3 T ol oh hl hh p dp den h
 obtain ⟨_, _, e2, _⟩ := plan_ok n hn d hs b1 b2 b3 T ol oh hl hh p dp den h
 rw [e1, ← e2] at hp
 obtain ⟨_, g2, g3⟩ := plan_spec K p dp den
 obtain ⟨r1, r2, r3, r4⟩ := g2 hp
 exact ⟨r1, r2, r3, g3 r1 r2.1 r2.2 r3⟩
end
end Go.Proofs.Ytmndejpcpfkajaa

/-
  The plain laws of 'SiteSlackWindows' and 'SiteSurely': the laws' models are true, and their needs. Conditions: none.
-/
import Derived.Test.YtlaogoojkfjgoaaVFWinds
import Derived.Test.YtlaogoojkfjgoaaVPLoop
import Derived.Test.YtlaogoojkfjgoaaVPAng
import Derived.Test.YtlaogoojkfjgoaaVPWinds
import Derived.Test.YtlaogoojkfjgoaaVPTide
import Derived.Test.YtlaogoojkfjgoaaVE17
import Derived.Test.YtlaogoojkfjgoaaVPWin
import Derived.Test.YtlaogoojkfjgoaaVPWinds2
import Derived.Test.YtlaogoojkfjgoaaV1
import Derived.Test.YtlaogoojkfjgoaaV2
import Derived.Test.YtlaogoojkfjgoaaV3
import Derived.Test.YtlaogoojkfjgoaaV4
namespace Go.Proofs.Ytlaogoojkfjgoaa
open Go Go.Sy
set_option linter.unusedVariables false
set_option linter.unusedSimpArgs false
set_option maxRecDepth 100000
attribute [local simp] brk
structure Spn (lo hi : Int) : Prop where
  h0 : 0 ≤ lo
  le : lo ≤ hi
  h1 : hi ≤ 1000000
  few : hi - lo < 3000
theorem span_cases (lo hi : Int) : (Spn lo hi ∧ m67 lo hi = 0 ∧ m116 lo hi = 0) ∨ ∃ e, e ≠ 0 ∧ m67 lo hi = e ∧ m116 lo hi = e := by
  simp only [m67, m116, m80_m22]
  cases a : m22 lo with
  | false => exact .inr ⟨2, by decide, rfl, rfl⟩
  | true =>
    cases b : m22 hi with
    | false => exact .inr ⟨2, by decide, rfl, rfl⟩
    | true =>
      have ⟨a0, a1⟩ := m22_iff.1 a
      have ⟨b0, b1⟩ := m22_iff.1 b
      rw [wr (n := hi - lo) (by omega) (by omega), wr (n := hi - lo + 1) (by omega) (by omega)]
      by_cases h : hi < lo
      · rw [decide_eq_true h]; exact .inr ⟨9, by decide, rfl, rfl⟩
      · rw [decide_eq_false h]
        by_cases k : 3000 ≤ hi - lo
        · rw [decide_eq_true k, decide_eq_true (show 3000 < hi - lo + 1 by omega)]; exact .inr ⟨8, by decide, rfl, rfl⟩
        · rw [decide_eq_false k, decide_eq_false (show ¬ 3000 < hi - lo + 1 by omega)]
          exact .inl ⟨⟨a0, by omega, b1, by omega⟩, rfl, rfl⟩
section
variable {M : Int} {n : Nat} {d : Dat} {l : Int} {s : Bool} {lo hi : Int}
end
end Go.Proofs.Ytlaogoojkfjgoaa

/-
  The plain laws of 'SiteLevels', 'SiteSlack', 'SitePeriods': the laws' models are true, and their needs. Conditions: none.
-/
import Derived.Test.YtlaogoojkfjgoaaK1
import Derived.Test.YtlaogoojkfjgoaaK2
import Derived.Test.YtlaogoojkfjgoaaK3
import Derived.Test.YtlaogoojkfjgoaaK4
import Derived.Test.YtlaogoojkfjgoaaK5
import Derived.Test.YtlaogoojkfjgoaaKFSurely
import Derived.Test.YtlaogoojkfjgoaaKPLoop
import Derived.Test.YtlaogoojkfjgoaaKPAng
import Derived.Test.YtlaogoojkfjgoaaKPCirc
import Derived.Test.YtlaogoojkfjgoaaKPRay
import Derived.Test.YtlaogoojkfjgoaaKPCos
import Derived.Test.YtlaogoojkfjgoaaKPTide
import Derived.Test.YtlaogoojkfjgoaaKE17
namespace Go.Proofs.Ytlaogoojkfjgoaa
open Go Go.Sy
set_option linter.unusedVariables false
set_option linter.unusedSimpArgs false
set_option maxRecDepth 100000
theorem e17 : m17 = true := rfl
noncomputable def slk (M : Int) (n : Nat) (d : Dat) (t l : Int) : Int := if -l ≤ (LV M n d t).1 ∧ (LV M n d t).2 ≤ l then 2 else if l < (LV M n d t).1 ∨ (LV M n d t).2 < -l then 0 else 1
theorem slk_eq {a b l : Int} (h0 : 0 ≤ l) (h1 : l ≤ 10000000) {α : Type} (x y z : α) : cond (bif decide (IntKind.i64.wrap (0 - l) ≤ a) then decide (b ≤ l) else false) x (cond (bif decide (l < a) then true else decide (b < IntKind.i64.wrap (0 - l))) y z) = if -l ≤ a ∧ b ≤ l then x else if l < a ∨ b < -l then y else z := by
  rw [wr (n := 0 - l) (by omega) (by omega), show (0 - l) = -l by omega]
  by_cases p : -l ≤ a <;> by_cases q : b ≤ l <;> by_cases r : l < a <;> by_cases s : b < -l <;> simp [p, q, r, s]
theorem m115_eq {M : Int} {n : Nat} {d : Dat} {t l : Int} (T : Tab M n d) (t0 : 0 ≤ t) (t1 : t ≤ 1000000) (h0 : 0 ≤ l) (h1 : l ≤ 10000000) : n115 M n d m98 t l = true ∧ m115 M n d m98 t l = (slk M n d t l, M, n, d, m98) := by
  have L := level_ok T t0 t1
  constructor
  · simp only [n115, L.n81]; rfl
  · simp only [m115, L.m81]; rw [slk_eq h0 h1]; unfold slk; split
    · rfl
    · split <;> rfl
theorem slk_mono {M : Int} {n : Nat} {d : Dat} {t l l' : Int} (h : l ≤ l') : slk M n d t l ≤ slk M n d t l' := by
  unfold slk
  repeat' split
  all_goals omega
end Go.Proofs.Ytlaogoojkfjgoaa

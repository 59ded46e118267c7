/-
  The plain laws of 'SiteLevels', 'SiteSlack', 'SitePeriods': the laws' models are true, and their needs. Conditions: none.
-/
import Derived.Test.YtlaogoojkfjgoaaH1
import Derived.Test.YtlaogoojkfjgoaaH2
import Derived.Test.YtlaogoojkfjgoaaH3
import Derived.Test.YtlaogoojkfjgoaaH4
import Derived.Test.YtlaogoojkfjgoaaH5
import Derived.Test.YtlaogoojkfjgoaaHFSlackWindows
import Derived.Test.YtlaogoojkfjgoaaHPLoop
import Derived.Test.YtlaogoojkfjgoaaHPAng
import Derived.Test.YtlaogoojkfjgoaaHPCirc
import Derived.Test.YtlaogoojkfjgoaaHPRay
import Derived.Test.YtlaogoojkfjgoaaHPCos
import Derived.Test.YtlaogoojkfjgoaaHPTide
import Derived.Test.YtlaogoojkfjgoaaHE17
namespace Go.Proofs.Ytlaogoojkfjgoaa
open Go Go.Sy
set_option linter.unusedVariables false
set_option linter.unusedSimpArgs false
set_option maxRecDepth 100000
theorem e17 : m17 = true := rfl
theorem f20 : decide ((2 : Int) = 0) = false := by decide
noncomputable def slk (M : Int) (n : Nat) (d : Dat) (t l : Int) : Int := if -l ≤ (LV M n d t).1 ∧ (LV M n d t).2 ≤ l then 2 else if l < (LV M n d t).1 ∨ (LV M n d t).2 < -l then 0 else 1
theorem slk_eq {a b l : Int} (h0 : 0 ≤ l) (h1 : l ≤ 10000000) {α : Type} (x y z : α) : cond (bif decide (IntKind.i64.wrap (0 - l) ≤ a) then decide (b ≤ l) else false) x (cond (bif decide (l < a) then true else decide (b < IntKind.i64.wrap (0 - l))) y z) = if -l ≤ a ∧ b ≤ l then x else if l < a ∨ b < -l then y else z := by
  rw [wr (n := 0 - l) (by omega) (by omega), show (0 - l) = -l by omega]
  by_cases p : -l ≤ a <;> by_cases q : b ≤ l <;> by_cases r : l < a <;> by_cases s : b < -l <;> simp [p, q, r, s]
theorem m57_eq {M : Int} {n : Nat} {d : Dat} {t l : Int} (T : Tab M n d) (t0 : 0 ≤ t) (t1 : t ≤ 1000000) (h0 : 0 ≤ l) (h1 : l ≤ 10000000) : n57 M n d t l = true ∧ m57 M n d t l = slk M n d t l := by
  have L := level_ok T t0 t1
  constructor
  · simp only [n57, L.n23]; rfl
  · simp only [m57, L.m23]; rw [slk_eq h0 h1]; rfl
theorem m115_eq {M : Int} {n : Nat} {d : Dat} {t l : Int} (T : Tab M n d) (t0 : 0 ≤ t) (t1 : t ≤ 1000000) (h0 : 0 ≤ l) (h1 : l ≤ 10000000) : n115 M n d m98 t l = true ∧ m115 M n d m98 t l = (slk M n d t l, M, n, d, m98) := by
  have L := level_ok T t0 t1
  constructor
  · simp only [n115, L.n81]; rfl
  · simp only [m115, L.m81]; rw [slk_eq h0 h1]; unfold slk; split
    · rfl
    · split <;> rfl
end Go.Proofs.Ytlaogoojkfjgoaa

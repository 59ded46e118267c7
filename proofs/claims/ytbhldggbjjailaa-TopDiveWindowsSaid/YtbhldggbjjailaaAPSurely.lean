/-
  The plain law of 'SiteSurely': the law's model is true, and its need. Conditions: none.
-/
import Derived.Test.YtbhldggbjjailaaAFDiveWindows
import Derived.Test.YtbhldggbjjailaaAPApt
import Derived.Test.YtbhldggbjjailaaAPLoop
import Derived.Test.YtbhldggbjjailaaAPAng
import Derived.Test.YtbhldggbjjailaaAPCheckW
import Derived.Test.YtbhldggbjjailaaAPFits
import Derived.Test.YtbhldggbjjailaaAPCirc
import Derived.Test.YtbhldggbjjailaaAPRay
import Derived.Test.YtbhldggbjjailaaAPCos
import Derived.Test.YtbhldggbjjailaaAPTide
import Derived.Test.YtbhldggbjjailaaAPLevels
import Derived.Test.YtbhldggbjjailaaAPWin
import Derived.Test.YtbhldggbjjailaaAPMeet
import Derived.Test.YtbhldggbjjailaaAPRuns
import Derived.Test.YtbhldggbjjailaaAPSlackW
namespace Go.Proofs.Ytbhldggbjjailaa
open Go Go.Sy
set_option linter.unusedVariables false
set_option linter.unusedSimpArgs false
set_option maxRecDepth 100000
attribute [local simp] brk
section
variable {M : Int} {n : Nat} {d : Dat} {l l' : Int} {lo hi : Int}
theorem slk_two {m : Int} (h : slk M n d m l = 2) : -l ≤ (LV M n d m).1 ∧ (LV M n d m).2 ≤ l := by
  unfold slk at h
  split at h
  · assumption
  · split at h <;> omega
end
end Go.Proofs.Ytbhldggbjjailaa

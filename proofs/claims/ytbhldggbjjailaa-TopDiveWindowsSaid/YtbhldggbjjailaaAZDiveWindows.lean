/-
  The law 'TopDiveWindows' returns true for every input, and leaves its input as it was. Conditions: none.
-/
import Derived.Test.YtbhldggbjjailaaAFDiveWindows
import Derived.Test.YtbhldggbjjailaaAPApt
import Derived.Test.YtbhldggbjjailaaAPLoop
import Derived.Test.YtbhldggbjjailaaAPAng
import Derived.Test.YtbhldggbjjailaaAPCheckW
import Derived.Test.YtbhldggbjjailaaAPFits
import Derived.Test.YtbhldggbjjailaaAPCirc
import Derived.Test.YtbhldggbjjailaaAPRay
import Derived.Test.YtbhldggbjjailaaAPCos
import Derived.Test.YtbhldggbjjailaaAPTide
import Derived.Test.YtbhldggbjjailaaAPLevels
import Derived.Test.YtbhldggbjjailaaAPWin
import Derived.Test.YtbhldggbjjailaaAPMeet
import Derived.Test.YtbhldggbjjailaaAPRuns
import Derived.Test.YtbhldggbjjailaaAPSlackW
import Derived.Test.YtbhldggbjjailaaAPSurely
import Derived.Test.YtbhldggbjjailaaAPWinds
import Derived.Test.YtbhldggbjjailaaAPWinds2
import Derived.Test.YtbhldggbjjailaaAPWinds3
import Derived.Test.YtbhldggbjjailaaAPDive
import Derived.Test.YtbhldggbjjailaaAPDive2
import Derived.Test.YtbhldggbjjailaaAPDive3
import Derived.Test.YtbhldggbjjailaaAPDive4
namespace Go.Proofs.Ytbhldggbjjailaa
open Go
theorem topDiveWindows_said : Rows.TopDiveWindowsSaid := overTopDiveWindows fun M n d l lo hi b s0 s1 s2 s3 s4 s5 s6 s7 nw dw mins _ hn _ _ _ _ _ _ _ _ _ _ _ _ hw _ _ => lawDiveWindows M n d l lo hi b s0 s1 s2 s3 s4 s5 s6 s7 nw dw mins (Nat.le_trans hn (by decide)) (Nat.le_trans hw (by decide))
end Go.Proofs.Ytbhldggbjjailaa

/-
  The plain law of 'SiteRuns': the law's model is true, and its need. Conditions: none.
-/
import Derived.Test.YtbhldggbjjailaaA1
import Derived.Test.YtbhldggbjjailaaA2
import Derived.Test.YtbhldggbjjailaaA3
import Derived.Test.YtbhldggbjjailaaA4
import Derived.Test.YtbhldggbjjailaaA5
import Derived.Test.YtbhldggbjjailaaAFDiveWindows
import Derived.Test.YtbhldggbjjailaaAPApt
import Derived.Test.YtbhldggbjjailaaAPLoop
import Derived.Test.YtbhldggbjjailaaAPAng
import Derived.Test.YtbhldggbjjailaaAPCheckW
import Derived.Test.YtbhldggbjjailaaAPFits
import Derived.Test.YtbhldggbjjailaaAPCirc
import Derived.Test.YtbhldggbjjailaaAPRay
import Derived.Test.YtbhldggbjjailaaAPCos
import Derived.Test.YtbhldggbjjailaaAPTide
import Derived.Test.YtbhldggbjjailaaAPLevels
import Derived.Test.YtbhldggbjjailaaAPWin
import Derived.Test.YtbhldggbjjailaaAPMeet
namespace Go.Proofs.Ytbhldggbjjailaa
open Go Go.Sy
set_option linter.unusedVariables false
set_option linter.unusedSimpArgs false
set_option maxRecDepth 100000
attribute [local simp] brk
section
variable {n n' : Nat} {d d' D : Dat} {bg : Int} {n1 : Nat} {p s : Dat}
end
theorem contains_eq {k : Nat} {w : Dat} (hk : k ≤ 9223372036854775807) (a b : Int) : n100c101 k w (datS [SV.int IntKind.i64 a, SV.int IntKind.i64 b] 1) = true ∧ (m100c101 k w (datS [SV.int IntKind.i64 a, SV.int IntKind.i64 b] 1) = true ↔ ∃ q, q < k ∧ w.ii q 0 ≤ a ∧ b ≤ w.ii q 1) := by
  have r : o133c101_0 k w (datS [SV.int IntKind.i64 a, SV.int IntKind.i64 b] 1) (k : Int) 0 = some (first (fun i => cond (bif decide (w.ii i 0 ≤ a) then decide (b ≤ w.ii i 1) else false) (some (true, (i : Int), default)) none) (false, default, ()) k 0) := by
    refine loop_first (l := l133c101_0 k w (datS [SV.int IntKind.i64 a, SV.int IntKind.i64 b] 1) (k : Int)) hk (fun f i hi => ?_) (fun f => by simp only [l133c101_0, cdn]; rfl) k 0 _ (by omega) (by omega)
    have x0 : (datS [SV.int IntKind.i64 a, SV.int IntKind.i64 b] 1).ii 0 0 = a := rfl
    have x1 : (datS [SV.int IntKind.i64 a, SV.int IntKind.i64 b] 1).ii 1 0 = b := rfl
    simp only [l133c101_0, cdl hi, cdd hi, cond_true, Int.toNat_natCast, n101, m101, x0, x1]
    cases decide (w.ii i 0 ≤ a) <;> cases decide (b ≤ w.ii i 1) <;> simp
  constructor
  · simp only [n100c101, n133c101, r]; rfl
  · simp only [m100c101, m133c101, r, Option.getD_some]
    rcases first_cases (g := fun i => cond (bif decide (w.ii i 0 ≤ a) then decide (b ≤ w.ii i 1) else false) (some (true, (i : Int), (default : Unit))) none) (e := (false, default, ())) k 0 with ⟨j, c, _, h2, h3, _, h5⟩ | ⟨h1, h2⟩
    · rw [h5]
      by_cases x : w.ii j 0 ≤ a
      · by_cases y : b ≤ w.ii j 1
        · simp only [decide_eq_true x, decide_eq_true y, cond_true] at h3
          cases h3
          simp only [cond_true]
          exact ⟨fun _ => ⟨j, by omega, x, y⟩, fun _ => decide_eq_true (by omega)⟩
        · simp only [decide_eq_true x, decide_eq_false y, cond_true, cond_false] at h3; cases h3
      · simp only [decide_eq_false x, cond_false] at h3; cases h3
    · rw [h2]
      simp only [cond_false]
      refine ⟨fun h => by simp at h, fun ⟨q, hq, x, y⟩ => ?_⟩
      have := h1 q (Nat.zero_le _) (by omega)
      simp only [decide_eq_true x, decide_eq_true y, cond_true] at this
      cases this
end Go.Proofs.Ytbhldggbjjailaa

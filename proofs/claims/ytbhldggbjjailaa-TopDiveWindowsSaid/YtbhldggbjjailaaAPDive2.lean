/-
  A run of one stop within a window. Conditions: none.
-/
import Derived.Test.YtbhldggbjjailaaAFDiveWindows
import Derived.Test.YtbhldggbjjailaaAPApt
import Derived.Test.YtbhldggbjjailaaAPLoop
import Derived.Test.YtbhldggbjjailaaAPAng
import Derived.Test.YtbhldggbjjailaaAPCheckW
import Derived.Test.YtbhldggbjjailaaAPFits
import Derived.Test.YtbhldggbjjailaaAPCirc
import Derived.Test.YtbhldggbjjailaaAPRay
import Derived.Test.YtbhldggbjjailaaAPCos
import Derived.Test.YtbhldggbjjailaaAPTide
import Derived.Test.YtbhldggbjjailaaAPLevels
import Derived.Test.YtbhldggbjjailaaAPWin
import Derived.Test.YtbhldggbjjailaaAPMeet
import Derived.Test.YtbhldggbjjailaaAPRuns
import Derived.Test.YtbhldggbjjailaaAPSlackW
import Derived.Test.YtbhldggbjjailaaAPSurely
import Derived.Test.YtbhldggbjjailaaAPWinds
import Derived.Test.YtbhldggbjjailaaAPWinds2
import Derived.Test.YtbhldggbjjailaaAPWinds3
import Derived.Test.YtbhldggbjjailaaAPDive
import Derived.Test.YtbhldggbjjailaaA1
import Derived.Test.YtbhldggbjjailaaA2
import Derived.Test.YtbhldggbjjailaaA3
import Derived.Test.YtbhldggbjjailaaA4
import Derived.Test.YtbhldggbjjailaaA5
namespace Go.Proofs.Ytbhldggbjjailaa
open Go Go.Sy
set_option linter.unusedVariables false
set_option linter.unusedSimpArgs false
set_option maxRecDepth 100000
theorem run_one {x s : Int} (x0 : 0 ≤ x) (x1 : x ≤ 1000000) (s0 : 0 ≤ s) (s1 : s ≤ 10000) :
    n99 2 qs 2 zs x 1 (datS [SV.int IntKind.i64 1] 1) 1 (datS [SV.int IntKind.i64 s] 1) = true ∧ ∃ D, m99 2 qs 2 zs x 1 (datS [SV.int IntKind.i64 1] 1) 1 (datS [SV.int IntKind.i64 s] 1) = (1, D, 0) ∧ D.ii 0 0 = x ∧ D.ii 0 1 = x + s := by
  obtain ⟨c1, c2⟩ := chart_qs
  have pl := place_qs
  generalize hE : datS [SV.int IntKind.i64 1] 1 = E
  have e0 : E.ii 0 0 = 1 := by subst hE; rfl
  generalize hS : datS [SV.int IntKind.i64 s] 1 = S
  have e1 : S.ii 0 0 = s := by subst hS; rfl
  generalize qs = Q at *
  generalize zs = Z at *
  have b1 : decide (((1 : Nat) : Int) = 0) = false := rfl
  have b2 : decide (((1 : Nat) : Int) = ((1 : Nat) : Int)) = true := rfl
  have b3 : decide ((12 : Int) < ((1 : Nat) : Int)) = false := rfl
  have b4 : m93 x = true := by
    have : m39 x = true := m39_iff.2 ⟨x0, x1⟩
    rw [← this]; exact m93_m22 x
  have b5 : decide ((0 : Int) < ((1 : Nat) : Int)) = true := rfl
  have b6 : decide ((0 : Int) ≤ 0 ∧ (0 : Int) < ((1 : Nat) : Int)) = true := rfl
  have b7 : m95 s 0 10000 = true := by
    simp only [m95, decide_eq_true s0, decide_eq_true s1, cond_true]
  have b8 : decide ((0 : Int) < (0 : Int)) = false := rfl
  have b9 : decide (((1 : Nat) : Int) < ((1 : Nat) : Int)) = false := rfl
  have w0 : IntKind.i64.wrap (0 + 1) = ((1 : Nat) : Int) := rfl
  have w1 : IntKind.i64.wrap (x + s) = x + s := wr (by omega) (by omega)
  obtain ⟨f, hf⟩ : ∃ f, 0 + x.toNat + 1 + ((1 : Nat) : Int).toNat + (0 : Int).toNat + 2 + 2 + x.toNat + 1 + 8 = f + 2 := ⟨0 + x.toNat + 1 + ((1 : Nat) : Int).toNat + (0 : Int).toNat + 2 + 2 + x.toNat + 1 + 6, by omega⟩
  have o : ∃ z1 D, o99_1 1 E ((1 : Nat) : Int) 2 Q 2 Z x E 1 S 0 x 0 noDat = some (false, default, (1, z1, D)) ∧ (0 + 1 : Nat) ≤ z1 ∧ D.ii 0 0 = x ∧ D.ii 0 1 = x + s := by
    unfold o99_1
    rw [hf]
    refine ⟨_, _, by simp only [l99_1, b5, b6, pl, b7, b8, b9, w0, w1, e0, e1, Int.toNat_zero, cond_true, cond_false]; rfl, ?_, ?_, ?_⟩
    · exact Nat.le_refl _
    · rfl
    · rfl
  obtain ⟨z1, D, ho, hz, d0, d1⟩ := o
  have b10 : decide ((0 : Int) = 0) = true := rfl
  have b11 : decide (0 + 1 ≤ z1) = true := decide_eq_true hz
  refine ⟨?_, D, ?_, d0, d1⟩
  · simp only [n99, c1, c2, b1, b2, b3, b4, b10, ho, b11, Option.isSome_some, Option.getD_some, decide_true, cond_true, cond_false]; rfl
  · simp only [m99, c2, b1, b2, b3, b4, b10, ho, Option.getD_some, decide_true, cond_true, cond_false]
/-- The last stop of a run of one stop that is within a window. -/
theorem fits_one {x s : Int} (x0 : 0 ≤ x) (x1 : x ≤ 1000000) (s0 : 0 ≤ s) (s1 : s ≤ 10000) {q : Nat} {D : Dat} (W : Wns q D) (hin : ∃ j, j < q ∧ D.ii j 0 ≤ x ∧ x + s ≤ D.ii j 1) :
    n35 2 qs 2 zs x 1 (datS [SV.int IntKind.i64 1] 1) 1 (datS [SV.int IntKind.i64 s] 1) 1 (datS [SV.ro [Kd.int IntKind.i64, Kd.int IntKind.i64] q D] 1) = true ∧
    m35 2 qs 2 zs x 1 (datS [SV.int IntKind.i64 1] 1) 1 (datS [SV.int IntKind.i64 s] 1) 1 (datS [SV.ro [Kd.int IntKind.i64, Kd.int IntKind.i64] q D] 1) = (x + s, 0) := by
  obtain ⟨g1, T, g2, t0, t1⟩ := run_one x0 x1 s0 s1
  generalize hL : datS [SV.ro [Kd.int IntKind.i64, Kd.int IntKind.i64] q D] 1 = L
  have l0 : L.sn 0 0 = q := by subst hL; rfl
  have l1 : L.sub 0 0 = D := by subst hL; rfl
  obtain ⟨w1, w2⟩ := wns_zero W
  have few := W.few
  obtain ⟨c1, c2⟩ := contains_eq (k := q) (w := D) (by omega) x (x + s)
  have c3 := c2.2 hin
  generalize datS [SV.int IntKind.i64 1] 1 = E at *
  generalize datS [SV.int IntKind.i64 s] 1 = S at *
  generalize qs = Q at *
  generalize zs = Z at *
  have b1 : decide (((1 : Nat) : Int) = ((1 : Nat) : Int)) = true := rfl
  have b5 : decide ((0 : Int) < ((1 : Nat) : Int)) = true := rfl
  have b6 : decide ((0 : Int) ≤ 0 ∧ (0 : Int) < ((1 : Nat) : Int)) = true := rfl
  have b9 : decide (((1 : Nat) : Int) < ((1 : Nat) : Int)) = false := rfl
  have w0 : IntKind.i64.wrap (0 + 1) = ((1 : Nat) : Int) := rfl
  have w4 : IntKind.i64.wrap (((1 : Nat) : Int) - 1) = 0 := rfl
  have b10 : decide ((0 : Int) = 0) = true := rfl
  obtain ⟨f, hf⟩ : ∃ f, 1 + 1 + ((1 : Nat) : Int).toNat + (0 : Int).toNat + 2 + 2 + x.toNat + 1 + 1 + 8 = f + 2 := ⟨1 + 1 + ((1 : Nat) : Int).toNat + (0 : Int).toNat + 2 + 2 + x.toNat + 1 + 1 + 6, by omega⟩
  have o : o35_1 1 L 1 T T ((1 : Nat) : Int) 2 Q 2 Z x 1 E 1 S 0 = some (false, default, ()) := by
    unfold o35_1
    rw [hf]
    simp only [l35_1, b5, b6, b9, w0, b10, l0, l1, t0, t1, w1, w2, c1, c3, Int.toNat_zero, decide_true, cond_true, cond_false]
  constructor
  · simp only [n35, g1, g2, b1, b10, o, w4, b6, Option.isSome_some, Option.getD_some, decide_true, cond_true, cond_false]; rfl
  · simp only [m35, g2, b1, b10, o, w4, t1, Option.getD_some, Int.toNat_zero, decide_true, cond_true, cond_false]
end Go.Proofs.Ytbhldggbjjailaa

/-
  The plain laws of 'SiteSlackWindows' and 'SiteSurely': the laws' models are true, and their needs. Conditions: none.
-/
import Derived.Test.YtbhldggbjjailaaAFDiveWindows
import Derived.Test.YtbhldggbjjailaaAPApt
import Derived.Test.YtbhldggbjjailaaAPLoop
import Derived.Test.YtbhldggbjjailaaAPAng
import Derived.Test.YtbhldggbjjailaaAPCheckW
import Derived.Test.YtbhldggbjjailaaAPFits
import Derived.Test.YtbhldggbjjailaaAPCirc
import Derived.Test.YtbhldggbjjailaaAPRay
import Derived.Test.YtbhldggbjjailaaAPCos
import Derived.Test.YtbhldggbjjailaaAPTide
import Derived.Test.YtbhldggbjjailaaAPLevels
import Derived.Test.YtbhldggbjjailaaAPWin
import Derived.Test.YtbhldggbjjailaaAPMeet
import Derived.Test.YtbhldggbjjailaaAPRuns
import Derived.Test.YtbhldggbjjailaaA1
import Derived.Test.YtbhldggbjjailaaA2
import Derived.Test.YtbhldggbjjailaaA3
import Derived.Test.YtbhldggbjjailaaA4
import Derived.Test.YtbhldggbjjailaaA5
namespace Go.Proofs.Ytbhldggbjjailaa
open Go Go.Sy
set_option linter.unusedVariables false
set_option linter.unusedSimpArgs false
set_option maxRecDepth 100000
attribute [local simp] brk
structure Spn (lo hi : Int) : Prop where
  h0 : 0 ≤ lo
  le : lo ≤ hi
  h1 : hi ≤ 1000000
  few : hi - lo < 3000
theorem span_cases (lo hi : Int) : (Spn lo hi ∧ m23 lo hi = 0 ∧ m83 lo hi = 0) ∨ ∃ e, e ≠ 0 ∧ m23 lo hi = e ∧ m83 lo hi = e := by
  simp only [m23, m83, m93_m22]
  cases a : m39 lo with
  | false => exact .inr ⟨2, by decide, rfl, rfl⟩
  | true =>
    cases b : m39 hi with
    | false => exact .inr ⟨2, by decide, rfl, rfl⟩
    | true =>
      have ⟨a0, a1⟩ := m39_iff.1 a
      have ⟨b0, b1⟩ := m39_iff.1 b
      rw [wr (n := hi - lo) (by omega) (by omega), wr (n := hi - lo + 1) (by omega) (by omega)]
      by_cases h : hi < lo
      · rw [decide_eq_true h]; exact .inr ⟨9, by decide, rfl, rfl⟩
      · rw [decide_eq_false h]
        by_cases k : 3000 ≤ hi - lo
        · rw [decide_eq_true k, decide_eq_true (show 3000 < hi - lo + 1 by omega)]; exact .inr ⟨8, by decide, rfl, rfl⟩
        · rw [decide_eq_false k, decide_eq_false (show ¬ 3000 < hi - lo + 1 by omega)]
          exact .inl ⟨⟨a0, by omega, b1, by omega⟩, rfl, rfl⟩
section
variable {M : Int} {n : Nat} {d : Dat} {l : Int} {s : Bool} {lo hi : Int}
theorem ab (c : m129 M n d = 0) (q : n129 M n d = true) : n81a M n d = false ∧ n81b M n d = true := by
  constructor
  · simp only [n81a, c, q, decide_true, cond_true]; rfl
  · simp only [n81b, c, q, n118_val, decide_true, cond_true]; rfl
/-- What the program's windows come to. -/
theorem win_ok (T : Tab M n d) (c : m129 M n d = 0) (q : n129 M n d = true) (S : Spn lo hi) (c2 : m83 lo hi = 0) (l0 : 0 ≤ l) (l1 : l ≤ 10000000) :
    n25 M n d l lo hi s = true ∧ ∃ k D, Rep k D (wl (hasW M n d l s) lo (hi - lo + 1).toNat) ∧ m25 M n d l lo hi s = if 60 < k then (0, noDat, 8) else (k, D, 0) := by
  obtain ⟨h0, le, h1, few⟩ := S
  obtain ⟨a1, a2⟩ := ab c q
  have lim : m82 l = true := m24_iff.2 ⟨l0, l1⟩
  obtain ⟨k, D, R, e⟩ := l84_run (s := s) T l0 l1 h0 h1 lo hi (hi - lo + 1).toNat 0 (lo.toNat + M.toNat + n + l.toNat + lo.toNat + hi.toNat + lo.toNat + hi.toNat + 0 + 0 + 8) 0 noDat (by omega) (by omega) (by omega) rep_nil
  rw [Nat.zero_add] at R
  rw [show lo + ((0 : Nat) : Int) = lo by omega] at e
  have o : o84c85_0 lo hi lo M n d m118 l lo hi s 0 0 noDat = some (M, n, d, m118, l, lo, hi, s, k, k, D) := e
  have g1 : n84c85 lo hi M n d m118 l lo hi s = true := by simp only [n84c85, o, Option.isSome_some]; rfl
  have g2 : m84c85 lo hi M n d m118 l lo hi s = (k, M, n, d, m118, l, lo, hi, s, k, D) := by simp only [m84c85, o, Option.getD_some]
  by_cases hk : 60 < k
  · have z : decide ((60 : Int) < (k : Int)) = true := decide_eq_true (by omega)
    refine ⟨?_, k, D, R, ?_⟩
    · simp only [n25, a1, a2, m81b, lim, c2, g1, g2, n87a, z, decide_true, cond_true, cond_false]; rfl
    · rw [if_pos hk]
      simp only [m25, a1, m81b, lim, c2, g2, n87a, m87a, z, decide_true, cond_true, cond_false]; rfl
  · have z : decide ((60 : Int) < (k : Int)) = false := decide_eq_false (by omega)
    refine ⟨?_, k, D, R, ?_⟩
    · simp only [n25, a1, a2, m81b, lim, c2, g1, g2, n87a, n87b, m87b, z, Nat.zero_add, Nat.le_refl, decide_true, cond_true, cond_false]; rfl
    · rw [if_neg hk]
      simp only [m25, a1, m81b, lim, c2, g2, n87a, m87b, z, decide_true, cond_true, cond_false]; rfl
end
end Go.Proofs.Ytbhldggbjjailaa

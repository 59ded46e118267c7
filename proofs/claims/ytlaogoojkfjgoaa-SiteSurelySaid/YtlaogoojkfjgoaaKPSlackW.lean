/-
  The plain laws of 'SiteSlackWindows' and 'SiteSurely': the laws' models are true, and their needs. Conditions: none.
-/
import Derived.Test.YtlaogoojkfjgoaaKFSurely
import Derived.Test.YtlaogoojkfjgoaaKPLoop
import Derived.Test.YtlaogoojkfjgoaaKPAng
import Derived.Test.YtlaogoojkfjgoaaKPCirc
import Derived.Test.YtlaogoojkfjgoaaKPRay
import Derived.Test.YtlaogoojkfjgoaaKPCos
import Derived.Test.YtlaogoojkfjgoaaKPTide
import Derived.Test.YtlaogoojkfjgoaaKE17
import Derived.Test.YtlaogoojkfjgoaaKPLevels
import Derived.Test.YtlaogoojkfjgoaaKPWin
import Derived.Test.YtlaogoojkfjgoaaK1
import Derived.Test.YtlaogoojkfjgoaaK2
import Derived.Test.YtlaogoojkfjgoaaK3
import Derived.Test.YtlaogoojkfjgoaaK4
import Derived.Test.YtlaogoojkfjgoaaK5
namespace Go.Proofs.Ytlaogoojkfjgoaa
open Go Go.Sy
set_option linter.unusedVariables false
set_option linter.unusedSimpArgs false
set_option maxRecDepth 100000
attribute [local simp] brk
structure Spn (lo hi : Int) : Prop where
  h0 : 0 ≤ lo
  le : lo ≤ hi
  h1 : hi ≤ 1000000
  few : hi - lo < 3000
theorem span_cases (lo hi : Int) : (Spn lo hi ∧ m67 lo hi = 0 ∧ m116 lo hi = 0) ∨ ∃ e, e ≠ 0 ∧ m67 lo hi = e ∧ m116 lo hi = e := by
  simp only [m67, m116, m80_m22]
  cases a : m22 lo with
  | false => exact .inr ⟨2, by decide, rfl, rfl⟩
  | true =>
    cases b : m22 hi with
    | false => exact .inr ⟨2, by decide, rfl, rfl⟩
    | true =>
      have ⟨a0, a1⟩ := m22_iff.1 a
      have ⟨b0, b1⟩ := m22_iff.1 b
      rw [wr (n := hi - lo) (by omega) (by omega), wr (n := hi - lo + 1) (by omega) (by omega)]
      by_cases h : hi < lo
      · rw [decide_eq_true h]; exact .inr ⟨9, by decide, rfl, rfl⟩
      · rw [decide_eq_false h]
        by_cases k : 3000 ≤ hi - lo
        · rw [decide_eq_true k, decide_eq_true (show 3000 < hi - lo + 1 by omega)]; exact .inr ⟨8, by decide, rfl, rfl⟩
        · rw [decide_eq_false k, decide_eq_false (show ¬ 3000 < hi - lo + 1 by omega)]
          exact .inl ⟨⟨a0, by omega, b1, by omega⟩, rfl, rfl⟩
section
variable {M : Int} {n : Nat} {d : Dat} {l : Int} {s : Bool} {lo hi : Int}
theorem ab (c : m126 M n d = 0) (q : n126 M n d = true) : n79a M n d = false ∧ n79b M n d = true := by
  constructor
  · simp only [n79a, c, q, decide_true, cond_true]; rfl
  · simp only [n79b, c, q, n98_val, decide_true, cond_true]; rfl
/-- What the program's windows come to. -/
theorem win_ok (T : Tab M n d) (c : m126 M n d = 0) (q : n126 M n d = true) (S : Spn lo hi) (c2 : m116 lo hi = 0) (l0 : 0 ≤ l) (l1 : l ≤ 10000000) :
    n60 M n d l lo hi s = true ∧ ∃ k D, Rep k D (wl (hasW M n d l s) lo (hi - lo + 1).toNat) ∧ m60 M n d l lo hi s = if 60 < k then (0, noDat, 8) else (k, D, 0) := by
  obtain ⟨h0, le, h1, few⟩ := S
  obtain ⟨a1, a2⟩ := ab c q
  have lim : m114 l = true := m29_iff.2 ⟨l0, l1⟩
  obtain ⟨k, D, R, e⟩ := l117_run (s := s) T l0 l1 h0 h1 lo hi (hi - lo + 1).toNat 0 (lo.toNat + M.toNat + n + l.toNat + lo.toNat + hi.toNat + lo.toNat + hi.toNat + 0 + 0 + 8) 0 noDat (by omega) (by omega) (by omega) rep_nil
  rw [Nat.zero_add] at R
  rw [show lo + ((0 : Nat) : Int) = lo by omega] at e
  have o : o117c118_0 lo hi lo M n d m98 l lo hi s 0 0 noDat = some (M, n, d, m98, l, lo, hi, s, k, k, D) := e
  have g1 : n117c118 lo hi M n d m98 l lo hi s = true := by simp only [n117c118, o, Option.isSome_some]; rfl
  have g2 : m117c118 lo hi M n d m98 l lo hi s = (k, M, n, d, m98, l, lo, hi, s, k, D) := by simp only [m117c118, o, Option.getD_some]
  by_cases hk : 60 < k
  · have z : decide ((60 : Int) < (k : Int)) = true := decide_eq_true (by omega)
    refine ⟨?_, k, D, R, ?_⟩
    · simp only [n60, a1, a2, m79b, lim, c2, g1, g2, n106a, z, decide_true, cond_true, cond_false]; rfl
    · rw [if_pos hk]
      simp only [m60, a1, m79b, lim, c2, g2, n106a, m106a, z, decide_true, cond_true, cond_false]; rfl
  · have z : decide ((60 : Int) < (k : Int)) = false := decide_eq_false (by omega)
    refine ⟨?_, k, D, R, ?_⟩
    · simp only [n60, a1, a2, m79b, lim, c2, g1, g2, n106a, n106b, m106b, z, Nat.zero_add, Nat.le_refl, decide_true, cond_true, cond_false]; rfl
    · rw [if_neg hk]
      simp only [m60, a1, m79b, lim, c2, g2, n106a, m106b, z, decide_true, cond_true, cond_false]; rfl
end
end Go.Proofs.Ytlaogoojkfjgoaa

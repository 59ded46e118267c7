/-
  The plain laws of 'SiteLevels', 'SiteSlack', 'SitePeriods': the laws' models are true, and their needs. Conditions: none.
-/
import Derived.Test.YtbhldggbjjailaaA1
import Derived.Test.YtbhldggbjjailaaA2
import Derived.Test.YtbhldggbjjailaaA3
import Derived.Test.YtbhldggbjjailaaA4
import Derived.Test.YtbhldggbjjailaaA5
import Derived.Test.YtbhldggbjjailaaAFDiveWindows
import Derived.Test.YtbhldggbjjailaaAPApt
import Derived.Test.YtbhldggbjjailaaAPLoop
import Derived.Test.YtbhldggbjjailaaAPAng
import Derived.Test.YtbhldggbjjailaaAPCheckW
import Derived.Test.YtbhldggbjjailaaAPFits
import Derived.Test.YtbhldggbjjailaaAPCirc
import Derived.Test.YtbhldggbjjailaaAPRay
import Derived.Test.YtbhldggbjjailaaAPCos
import Derived.Test.YtbhldggbjjailaaAPTide
namespace Go.Proofs.Ytbhldggbjjailaa
open Go Go.Sy
set_option linter.unusedVariables false
set_option linter.unusedSimpArgs false
set_option maxRecDepth 100000
noncomputable def slk (M : Int) (n : Nat) (d : Dat) (t l : Int) : Int := if -l ≤ (LV M n d t).1 ∧ (LV M n d t).2 ≤ l then 2 else if l < (LV M n d t).1 ∨ (LV M n d t).2 < -l then 0 else 1
theorem slk_eq {a b l : Int} (h0 : 0 ≤ l) (h1 : l ≤ 10000000) {α : Type} (x y z : α) : cond (bif decide (IntKind.i64.wrap (0 - l) ≤ a) then decide (b ≤ l) else false) x (cond (bif decide (l < a) then true else decide (b < IntKind.i64.wrap (0 - l))) y z) = if -l ≤ a ∧ b ≤ l then x else if l < a ∨ b < -l then y else z := by
  rw [wr (n := 0 - l) (by omega) (by omega), show (0 - l) = -l by omega]
  by_cases p : -l ≤ a <;> by_cases q : b ≤ l <;> by_cases r : l < a <;> by_cases s : b < -l <;> simp [p, q, r, s]
theorem m86_eq {M : Int} {n : Nat} {d : Dat} {t l : Int} (T : Tab M n d) (t0 : 0 ≤ t) (t1 : t ≤ 1000000) (h0 : 0 ≤ l) (h1 : l ≤ 10000000) : n86 M n d m118 t l = true ∧ m86 M n d m118 t l = (slk M n d t l, M, n, d, m118) := by
  have L := level_ok T t0 t1
  constructor
  · simp only [n86, L.n94]; rfl
  · simp only [m86, L.m94]; rw [slk_eq h0 h1]; unfold slk; split
    · rfl
    · split <;> rfl
theorem m28_ok {M : Int} {n : Nat} {d : Dat} {t l : Int} (T : Tab M n d) (c20 : m129 M n d = 0) (cn : n129 M n d = true) : n28 M n d t l = true ∧ m28 M n d t l = cond (bif (bif m39 t then false else true) then true else (bif m24 l 0 10000000 then false else true)) (0, 2) (slk M n d t l, 0) := by
  have a1 : n81a M n d = false := by simp only [n81a, c20, cn, decide_true, cond_true]; rfl
  have a2 : n81b M n d = true := by simp only [n81b, c20, cn, n118_val, decide_true, cond_true]; rfl
  cases ht : m39 t with
  | false =>
    constructor
    · simp only [n28, a1, a2, m81b, m93_m22, ht, decide_true, cond_true, cond_false]; rfl
    · simp only [m28, a1, m81b, m93_m22, ht, decide_true, cond_true, cond_false]
  | true =>
    have ⟨t0, t1⟩ := m39_iff.1 ht
    cases hl : m24 l 0 10000000 with
    | false =>
      constructor
      · simp only [n28, a1, a2, m81b, m93_m22, m82, m95_m29, ht, hl, decide_true, cond_true, cond_false]; rfl
      · simp only [m28, a1, m81b, m93_m22, m82, m95_m29, ht, hl, decide_true, cond_true, cond_false]
    | true =>
      have ⟨l0, l1⟩ := m24_iff.1 hl
      obtain ⟨b1, b2⟩ := m86_eq T t0 t1 l0 l1
      constructor
      · simp only [n28, a1, a2, m81b, m93_m22, m82, m95_m29, ht, hl, b1, decide_true, cond_true, cond_false]; rfl
      · simp only [m28, a1, m81b, m93_m22, m82, m95_m29, ht, hl, b2, decide_true, cond_true, cond_false]
end Go.Proofs.Ytbhldggbjjailaa

/-
  The plain laws of 'SiteLevels', 'SiteSlack', 'SitePeriods': the laws' models are true, and their needs. Conditions: none.
-/
import Derived.Test.YtlaogoojkfjgoaaG1
import Derived.Test.YtlaogoojkfjgoaaG2
import Derived.Test.YtlaogoojkfjgoaaG3
import Derived.Test.YtlaogoojkfjgoaaG4
import Derived.Test.YtlaogoojkfjgoaaGFSlack
import Derived.Test.YtlaogoojkfjgoaaGPLoop
import Derived.Test.YtlaogoojkfjgoaaGPAng
import Derived.Test.YtlaogoojkfjgoaaGPCirc
import Derived.Test.YtlaogoojkfjgoaaGPRay
import Derived.Test.YtlaogoojkfjgoaaGPCos
import Derived.Test.YtlaogoojkfjgoaaGPTide
import Derived.Test.YtlaogoojkfjgoaaGE17
namespace Go.Proofs.Ytlaogoojkfjgoaa
open Go Go.Sy
set_option linter.unusedVariables false
set_option linter.unusedSimpArgs false
set_option maxRecDepth 100000
theorem e17 : m17 = true := rfl
noncomputable def slk (M : Int) (n : Nat) (d : Dat) (t l : Int) : Int := if -l ≤ (LV M n d t).1 ∧ (LV M n d t).2 ≤ l then 2 else if l < (LV M n d t).1 ∨ (LV M n d t).2 < -l then 0 else 1
theorem slk_eq {a b l : Int} (h0 : 0 ≤ l) (h1 : l ≤ 10000000) {α : Type} (x y z : α) : cond (bif decide (IntKind.i64.wrap (0 - l) ≤ a) then decide (b ≤ l) else false) x (cond (bif decide (l < a) then true else decide (b < IntKind.i64.wrap (0 - l))) y z) = if -l ≤ a ∧ b ≤ l then x else if l < a ∨ b < -l then y else z := by
  rw [wr (n := 0 - l) (by omega) (by omega), show (0 - l) = -l by omega]
  by_cases p : -l ≤ a <;> by_cases q : b ≤ l <;> by_cases r : l < a <;> by_cases s : b < -l <;> simp [p, q, r, s]
theorem m57_eq {M : Int} {n : Nat} {d : Dat} {t l : Int} (T : Tab M n d) (t0 : 0 ≤ t) (t1 : t ≤ 1000000) (h0 : 0 ≤ l) (h1 : l ≤ 10000000) : n57 M n d t l = true ∧ m57 M n d t l = slk M n d t l := by
  have L := level_ok T t0 t1
  constructor
  · simp only [n57, L.n23]; rfl
  · simp only [m57, L.m23]; rw [slk_eq h0 h1]; rfl
theorem m115_eq {M : Int} {n : Nat} {d : Dat} {t l : Int} (T : Tab M n d) (t0 : 0 ≤ t) (t1 : t ≤ 1000000) (h0 : 0 ≤ l) (h1 : l ≤ 10000000) : n115 M n d m98 t l = true ∧ m115 M n d m98 t l = (slk M n d t l, M, n, d, m98) := by
  have L := level_ok T t0 t1
  constructor
  · simp only [n115, L.n81]; rfl
  · simp only [m115, L.m81]; rw [slk_eq h0 h1]; unfold slk; split
    · rfl
    · split <;> rfl
theorem m56_ok {M : Int} {n : Nat} {d : Dat} {t l : Int} (T : Tab M n d) (c21 : m126 M n d = 0) (cn : n126 M n d = true) : n56 M n d t l = true ∧ m56 M n d t l = cond (bif (bif m22 t then false else true) then true else (bif m29 l 0 10000000 then false else true)) (0, 2) (slk M n d t l, 0) := by
  have a1 : n79a M n d = false := by simp only [n79a, c21, cn, decide_true, cond_true]; rfl
  have a2 : n79b M n d = true := by simp only [n79b, c21, cn, n98_val, decide_true, cond_true]; rfl
  cases ht : m22 t with
  | false =>
    constructor
    · simp only [n56, a1, a2, m79b, m80_m22, ht, decide_true, cond_true, cond_false]; rfl
    · simp only [m56, a1, m79b, m80_m22, ht, decide_true, cond_true, cond_false]
  | true =>
    have ⟨t0, t1⟩ := m22_iff.1 ht
    cases hl : m29 l 0 10000000 with
    | false =>
      constructor
      · simp only [n56, a1, a2, m79b, m80_m22, m114, m96_m29, ht, hl, decide_true, cond_true, cond_false]; rfl
      · simp only [m56, a1, m79b, m80_m22, m114, m96_m29, ht, hl, decide_true, cond_true, cond_false]
    | true =>
      have ⟨l0, l1⟩ := m29_iff.1 hl
      obtain ⟨b1, b2⟩ := m115_eq T t0 t1 l0 l1
      constructor
      · simp only [n56, a1, a2, m79b, m80_m22, m114, m96_m29, ht, hl, b1, decide_true, cond_true, cond_false]; rfl
      · simp only [m56, a1, m79b, m80_m22, m114, m96_m29, ht, hl, b2, decide_true, cond_true, cond_false]
theorem m56_bad {M : Int} {n : Nat} {d : Dat} {t l e : Int} (he : e ≠ 0) (c21 : m126 M n d = e) (cn : n126 M n d = true) : n56 M n d t l = true ∧ m56 M n d t l = (0, e) := by
  have a1 : n79a M n d = true := by simp only [n79a, c21, cn, decide_eq_false he, cond_false]; rfl
  constructor
  · simp only [n56, a1, m79a, c21, decide_eq_false he, cond_true, cond_false]; rfl
  · simp only [m56, a1, m79a, c21, decide_eq_false he, cond_true, cond_false]
theorem slk_mono {M : Int} {n : Nat} {d : Dat} {t l l' : Int} (h : l ≤ l') : slk M n d t l ≤ slk M n d t l' := by
  unfold slk
  repeat' split
  all_goals omega
theorem lawSlack (M : Int) (n : Nat) (d : Dat) (t l : Int) (hn : n ≤ 9223372036854775807) : n12 M n d t l = true ∧ m12 M n d t l = true := by
  cases hf : m18 M n d with
  | false =>
    constructor
    · simp only [n12, n17_val, e17, hf, cond_true, cond_false]; rfl
    · simp only [m12, e17, hf, cond_true, cond_false]
  | true =>
    have h12 := m18_le hf
    have g20 := n20_t M d (show n ≤ 1000 by omega)
    obtain ⟨q1, q2, ⟨T, c1, c2⟩ | ⟨e, he, c1, c2⟩⟩ := tab_cases M n hn d
    · have r := fun l => m56_ok (t := t) (l := l) T c2 q2
      cases ht : m22 t with
      | false =>
        simp only [ht, cond_true, cond_false] at r
        constructor
        · simp only [n12, n17_val, e17, hf, g20, m20_eq, (r _).1, q1, c1, ht, decide_true, cond_true, cond_false]; rfl
        · simp only [m12, e17, hf, m20_eq, (r _).2, c1, ht, decide_true, cond_true, cond_false]
      | true =>
        have ⟨t0, t1⟩ := m22_iff.1 ht
        cases hl : m29 l 0 10000000 with
        | false =>
          have rl := r l
          simp only [ht, hl, cond_true, cond_false] at rl
          constructor
          · simp only [n12, n17_val, e17, hf, g20, m20_eq, (r _).1, q1, c1, ht, hl, decide_true, cond_true, cond_false]; rfl
          · simp only [m12, e17, hf, m20_eq, rl.2, c1, ht, hl, decide_true, cond_true, cond_false]
        | true =>
          have ⟨l0, l1⟩ := m29_iff.1 hl
          have b1 : IntKind.i64.wrap (l + 100) = l + 100 := wr (by omega) (by omega)
          have b2 : l ≤ imin (l + 100) 10000000 ∧ imin (l + 100) 10000000 ≤ 10000000 := by unfold imin; split <;> omega
          have hl2 : m29 (imin (l + 100) 10000000) 0 10000000 = true := m29_iff.2 ⟨by omega, b2.2⟩
          have r1 := r l
          have r2 := r (imin (l + 100) 10000000)
          simp only [ht, hl, hl2, cond_true, cond_false] at r1 r2
          obtain ⟨s1, s2⟩ := m57_eq T t0 t1 l0 l1
          constructor
          · simp only [n12, n17_val, e17, hf, g20, m20_eq, r1.1, r1.2, r2.1, q1, c1, ht, hl, s1, s2, b1, decide_true, cond_true, cond_false]; rfl
          · simp only [m12, e17, hf, m20_eq, r1.2, r2.2, c1, ht, hl, s2, b1, decide_true, cond_true, cond_false]
            exact decide_eq_true (slk_mono b2.1)
    · have r := fun l => m56_bad (t := t) (l := l) he c2 q2
      constructor
      · simp only [n12, n17_val, e17, hf, g20, m20_eq, (r _).1, q1, c1, decide_eq_false he, cond_true, cond_false]; rfl
      · simp only [m12, e17, hf, m20_eq, (r _).2, c1, decide_eq_false he, decide_true, cond_true, cond_false]
end Go.Proofs.Ytlaogoojkfjgoaa

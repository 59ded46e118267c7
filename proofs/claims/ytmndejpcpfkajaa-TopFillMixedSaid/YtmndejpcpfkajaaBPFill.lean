/-
 CheapestFill's model: the plan and its proof, or the refusal. Conditions: none.
-/
import Derived.Test.YtmndejpcpfkajaaBPLinJ
namespace Go.Proofs.Ytmndejpcpfkajaa
open Go Go.Sy Lin
set_option linter.unusedVariables false
set_option linter.unusedSimpArgs false
set_option linter.unusedSectionVars false
set_option maxRecDepth 100000
theorem m98_in {W a b c e q : Int} (h : InW W a b c e q) : m98 W a b c e q = true := by
 obtain ⟨i1, i2, i3, i4, i5, i6⟩ := h
 have h : o151c140_0 ((↑4 : Int) - 0).toNat (datS [SV.int IntKind.i64 a, SV.int IntKind.i64 b, SV.int IntKind.i64 c, SV.int IntKind.i64 e] 1) (↑(((↑4 : Int) - 0).toNat) : Int) 0 = cond (m140 a) (some (true, 0, default)) (cond (m140 b) (some (true, 1, default)) (cond (m140 c) (some (true, 2, default)) (cond (m140 e) (some (true, 3, default)) (some (false, default, ()))))) := by kernel_rfl
 have e73 : ∀ x y z, m83 x y z = m32 x y z := fun x y z => rfl
 have e131 : ∀ x, m140 x = !(m32 x 0 10000000) := fun x => by simp only [m140, e73]; cases m32 x 0 10000000 <;> rfl
 simp only [m98, m120c140, m151c140, h, e73, e131, m32_iff.2 i1, m32_iff.2 i2, m32_iff.2 i3, m32_iff.2 i4, m32_iff.2 i5, m32_iff.2 i6]
 rfl
section
variable (n : Nat) (hn : n ≤ 9223372036854775807) (d : Dat) (hs : ∀ i, i < n → (d.ss i 0).size ≤ 9223372036854775807) (b1 b2 b3 T ol oh hl hh : Int)
include hn hs
theorem fill_good (h : m34 n d b1 b2 b3 T ol oh hl hh = 0) : n35 n d b1 b2 b3 T ol oh hl hh = true ∧
  ((∃ bp den W a b c e q, m35 n d b1 b2 b3 T ol oh hl hh = (n, bp, den, W, a, b, c, e, q, 0) ∧ m71 n d b1 b2 b3 T ol oh hl hh n bp den W a b c e q = (0, 0) ∧ InW W a b c e q ∧ (lpOf (askD n d b1 b2 b3 T ol oh hl hh)).Plan den (xOf n d bp) ∧ (1 ≤ den ∧ den ≤ 1000000) ∧
    (lpOf (askD n d b1 b2 b3 T ol oh hl hh)).cost (xOf n d bp) * q = m99 (askD n d b1 b2 b3 T ol oh hl hh) W a b c e q 1 * den) ∨
   (∃ W a b c e q, m35 n d b1 b2 b3 T ol oh hl hh = (0, noDat, 0, W, a, b, c, e, q, 12) ∧ (m70 n d b1 b2 b3 T ol oh hl hh W a b c e q).2 = 0 ∧ ∀ D X, ¬ (lpOf (askD n d b1 b2 b3 T ol oh hl hh)).Plan D X)) := by
 have K := askK_of (rightK_of hn hs h)
 obtain ⟨t1, t2, t3⟩ := task_both n hn d hs b1 b2 b3 T ol oh hl hh
 obtain ⟨a1, a2, a3⟩ := task_good n hn d hs b1 b2 b3 T ol oh hl hh h
 have r1 : n93r n d b1 b2 b3 T ol oh hl hh = true := by simp only [n93r, t1, t3, h]; rfl
 have r2 : m93r n d b1 b2 b3 T ol oh hl hh = (askD n d b1 b2 b3 T ol oh hl hh, 0) := rfl
 obtain ⟨f1, f2, f3, f4⟩ := fill_spec K
 refine ⟨?_, ?_⟩
 ·simp only [n35, a1, r1, r2, f1, f2, f3, cond_false]
  cases (m94 (askD n d b1 b2 b3 T ol oh hl hh)).2.2.2 <;> rfl
 ·rcases f4 with ⟨bp, den, least, W, a, b, c, e, q, m, g1, g2, g3, g4, g5, g6, g7, g8⟩ | ⟨g1, g2, W, a, b, c, e, q, g3, g4, g5⟩
  ·left
   refine ⟨bp, den, W, a, b, c, e, q, ?_, ?_, g6, g3, g2, by rw [g4, g7]; exact g8⟩
   ·simp only [m35, a1, r2, g1, g5, cond_false]
    rfl
   ·have p3 := (plan_spec K n bp den).2.2 rfl g2.1 g2.2 g3
    rw [g4] at p3
    have hcs := cost_small K g2 g3
    rw [g4] at hcs
    have hmx := value_i64 K W a b c e q 1
    rw [g7] at hmx
    have hq := g6.1
    obtain ⟨v1, v2⟩ := compare_prog (n := least) (d := den) (m := m) (k := q) hcs.1 (by omega) (by omega) (by omega) (by omega) hcs.2 hmx
    have hz : sgn (least * q - m * den) = 0 := sgn_zero (by omega)
    rw [hz] at v2
    have hw := m98_in g6
    unfold askD at p3 g7
    simp only [m71, a1, a3, cond_false, p3, hw, g7, v2]
    rfl
  ·right
   refine ⟨W, a, b, c, e, q, ?_, ?_, g1⟩
   ·simp only [m35, a1, r2, g2, g3, cond_false]
    rfl
   ·have hw := m98_in g4
    have hp : ¬ m99 (askD n d b1 b2 b3 T ol oh hl hh) W a b c e q 0 ≤ 0 := by omega
    simp only [m70, a1, a3, cond_false, hw]
    show (cond (decide (m99 (askD n d b1 b2 b3 T ol oh hl hh) W a b c e q 0 ≤ 0)) ((0 : Int), (22 : Int)) (m99 (askD n d b1 b2 b3 T ol oh hl hh) W a b c e q 0, (0 : Int))).2 = 0
    rw [decide_eq_false hp]
    rfl
end
end Go.Proofs.Ytmndejpcpfkajaa

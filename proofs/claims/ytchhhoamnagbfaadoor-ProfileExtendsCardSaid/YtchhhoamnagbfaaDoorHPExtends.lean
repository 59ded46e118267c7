/-
  The law of more legs: plain law. Conditions: none.
-/
import Derived.Test.YtchhhoamnagbfaaDoorHPTwo
namespace Go.Proofs.YtchhhoamnagbfaaDoor
open Go Go.Sy
set_option linter.unusedVariables false
set_option linter.unusedSimpArgs false
set_option maxRecDepth 100000
theorem extends_ok (a : ByteArray) (b : Int) (ng : Nat) (g : Dat) (L : Nat) (e : Dat) (L' : Nat) (e' : Dat) : n6 a b ng g L e L' e' = true ∧ m6 a b ng g L e L' e' = true := by
  cases hs : m18 a b ng g L e with
  | false => exact ⟨by simp only [n6, n10_t, m10_t, hs, cond_true, cond_false, Bool.and_true], by simp only [m6, m10_t, hs, cond_true, cond_false]⟩
  | true =>
  obtain ⟨b1, b2, b3⟩ := few_bnd hs
  by_cases k1 : (10 : Int) < (L' : Int) ∧ (L' : Int) ≤ 60
  · exact ⟨by simp only [n6, n10_t, m10_t, hs, decide_eq_true k1.1, decide_eq_true k1.2, cond_true, cond_false, Bool.and_true], by simp only [m6, m10_t, hs, decide_eq_true k1.1, decide_eq_true k1.2, cond_true, cond_false]⟩
  have k1' : (bif decide ((10 : Int) < (L' : Int)) then decide ((L' : Int) ≤ 60) else false) = false := by
    by_cases u : (10 : Int) < (L' : Int)
    · rw [decide_eq_true u, decide_eq_false (show ¬ (L' : Int) ≤ 60 by omega)]; rfl
    · rw [decide_eq_false u]; rfl
  by_cases k2 : 62 < (L' : Int)
  · exact ⟨by simp only [n6, n10_t, m10_t, hs, k1', decide_eq_true k2, cond_true, cond_false, Bool.and_true], by simp only [m6, m10_t, hs, k1', decide_eq_true k2, cond_true, cond_false]⟩
  obtain ⟨c1, c2⟩ := copies_ok (a := a) (b := b) (ng := ng) (g := g) (L := L) (e := e) (by omega) (by omega)
  obtain ⟨d1, d2⟩ := copyL_ok (L := L') (e := e') (by omega)
  have n59t : n59 ng g = true := by simp only [n59, Nat.zero_add, decide_eq_true (show ng ≤ 1073741824 by omega), Nat.le_refl, decide_true]; rfl
  have r1 : n20r a b ng g L e = true := by simp only [n20r, n59t, n36r, Nat.zero_add, decide_eq_true (show L ≤ 1073741824 by omega)]; rfl
  have r2 : m20r a b ng g L e = (a, b, ng, g, L, L, e) := by simp only [m20r, m59, m36r, Nat.zero_add, app_nil0]
  obtain ⟨e1, e2⟩ := extended_ok (a := a) (b := b) (ng := ng) (g := g) (L := L) (e := e) (L' := L') (e' := e') (by omega) (by omega) (by omega)
  obtain ⟨p1, p2, p3, _⟩ := plan_ok a b ng g L e (by omega) (by omega) (by omega)
  obtain ⟨q1, q2, q3, _⟩ := plan_ok a b ng g (L + L') (e.app L e') (by omega) (by omega) (by omega)
  obtain ⟨s1, s2⟩ := plans_same (a := a) (b := b) (ng := ng) (g := g) (g' := g) (L := L + L') (e := e.app L e') (e' := e.app L e') (by omega) (by omega) (fun _ _ => ⟨rfl, rfl⟩) (fun _ _ => ⟨rfl, rfl, rfl⟩)
  have hdd : ∀ x : Int, decide (x = x) = true := fun x => decide_eq_true rfl
  have w00 : IntKind.i64.wrap (((0 : Nat) : Int) + ((0 : Nat) : Int)) = 0 := wr (by decide) (by decide)
  have n0 : m37 (({ data := #[] } : ByteArray)) 0 0 noDat 0 noDat = true := by simp only [m37, w00, decide_true, cond_true]
  have z0 : decide (L ≤ L) = true := decide_eq_true (Nat.le_refl _)
  have z1 : decide (L + L' ≤ 1073741824) = true := decide_eq_true (by omega)
  have z2 : decide (0 + (L + L') ≤ L + L') = true := decide_eq_true (by omega)
  by_cases h0 : (m25 a b ng g L e).2 = 0
  · by_cases h1 : (m25 a b ng g (L + L') (e.app L e')).2 = 0
    · rw [h0, h1] at e2
      simp only [hdd, cond_true] at e2
      exact ⟨by simp only [n6, n10_t, m10_t, hs, k1', decide_eq_false k2, c1, c2, d1, d2, r1, r2, e1, e2, p2, q2, h0, h1, s1, z0, z1, z2, hdd, decide_true, cond_true, cond_false, Bool.and_self, Bool.and_true, Bool.cond_self], by simp only [m6, m10_t, hs, k1', decide_eq_false k2, c2, d2, r2, e2, h0, h1, s2, hdd, decide_true, cond_true, cond_false, Bool.cond_self]⟩
    · simp only [decide_eq_true h0, decide_eq_false h1, cond_true, cond_false] at e2
      exact ⟨by simp only [n6, n10_t, m10_t, hs, k1', decide_eq_false k2, c1, c2, d1, d2, r1, r2, e1, e2, p2, q2, decide_eq_true h0, decide_eq_false h1, z0, z1, z2, hdd, decide_true, cond_true, cond_false, Bool.and_self, Bool.and_true, Bool.cond_self], by simp only [m6, m10_t, hs, k1', decide_eq_false k2, c2, d2, r2, e2, decide_eq_true h0, decide_eq_false h1, n0, hdd, decide_true, cond_true, cond_false, Bool.cond_self]⟩
  · simp only [decide_eq_false h0, cond_true, cond_false] at e2
    exact ⟨by simp only [n6, n10_t, m10_t, hs, k1', decide_eq_false k2, c1, c2, d1, d2, r1, r2, e1, e2, p2, q2, decide_eq_false h0, z0, z1, z2, hdd, decide_true, cond_true, cond_false, Bool.and_self, Bool.and_true, Bool.cond_self], by simp only [m6, m10_t, hs, k1', decide_eq_false k2, c2, d2, r2, e2, decide_eq_false h0, n0, hdd, decide_true, cond_true, cond_false, Bool.cond_self]⟩
end Go.Proofs.YtchhhoamnagbfaaDoor

/-
  Two plans, copied plans, equal plans, legs behind legs: plain law. Conditions: none.
-/
import Derived.Test.YtchhhoamnagbfaaDoorHPPlan
namespace Go.Proofs.YtchhhoamnagbfaaDoor
open Go Go.Sy
set_option linter.unusedVariables false
set_option linter.unusedSimpArgs false
set_option maxRecDepth 100000
theorem few_bnd {a : ByteArray} {b : Int} {ng : Nat} {g : Dat} {L : Nat} {e : Dat} (hs : m18 a b ng g L e = true) : a.size ≤ 20 ∧ ng ≤ 10 ∧ L ≤ 62 := by
  simp only [m18] at hs
  by_cases h1 : (a.size : Int) ≤ 20
  · by_cases h2 : (ng : Int) ≤ 10
    · by_cases h3 : (L : Int) ≤ 10
      · omega
      · by_cases h4 : (60 : Int) < (L : Int)
        · have : decide ((L : Int) ≤ 62) = true := by simpa [h1, h2, h3, h4] using hs
          have := of_decide_eq_true this; omega
        · simp [h1, h2, h3, h4] at hs
    · simp [h1, h2] at hs
  · simp [h1] at hs
theorem copies_ok {a : ByteArray} {b : Int} {ng : Nat} {g : Dat} {L : Nat} {e : Dat} (hg : ng ≤ 1073741824) (hL : L ≤ 1073741824) : n20 a b ng g L e = true ∧ m20 a b ng g L e = (a, b, ng, g, L, e) := by
  have n59t : n59 ng g = true := by simp only [n59, Nat.zero_add, decide_eq_true hg, Nat.le_refl, decide_true]; rfl
  have n36t : n36 L e = true := by simp only [n36, Nat.zero_add, decide_eq_true hL, Nat.le_refl, decide_true]; rfl
  exact ⟨by simp only [n20, n59t, n36t]; rfl, by simp only [m20, m59, m36, Nat.zero_add, app_nil0]⟩
theorem copyL_ok {L : Nat} {e : Dat} (hL : L ≤ 1073741824) : n36 L e = true ∧ m36 L e = (L, e) := by
  exact ⟨by simp only [n36, Nat.zero_add, decide_eq_true hL, Nat.le_refl, decide_true]; rfl, by simp only [m36, Nat.zero_add, app_nil0]⟩
theorem two_plans (a : ByteArray) (b : Int) (ng : Nat) (g : Dat) (L : Nat) (e : Dat) (a' : ByteArray) (b' : Int) (ng' : Nat) (g' : Dat) (L' : Nat) (e' : Dat) (ha : a.size ≤ 9223372036854775807) (hg : ng ≤ 9223372036854775807) (hL : L ≤ 9223372036854775807) (ha' : a'.size ≤ 9223372036854775807) (hg' : ng' ≤ 9223372036854775807) (hL' : L' ≤ 9223372036854775807) :
    n60 2 (datS [SV.str a, SV.int IntKind.i64 b, SV.ro [Kd.int IntKind.i64, Kd.int IntKind.i64] ng g, SV.ro [Kd.int IntKind.i64, Kd.int IntKind.i64, Kd.int IntKind.i64] L e, SV.str a', SV.int IntKind.i64 b', SV.ro [Kd.int IntKind.i64, Kd.int IntKind.i64] ng' g', SV.ro [Kd.int IntKind.i64, Kd.int IntKind.i64, Kd.int IntKind.i64] L' e'] 4) = true ∧
    m60 2 (datS [SV.str a, SV.int IntKind.i64 b, SV.ro [Kd.int IntKind.i64, Kd.int IntKind.i64] ng g, SV.ro [Kd.int IntKind.i64, Kd.int IntKind.i64, Kd.int IntKind.i64] L e, SV.str a', SV.int IntKind.i64 b', SV.ro [Kd.int IntKind.i64, Kd.int IntKind.i64] ng' g', SV.ro [Kd.int IntKind.i64, Kd.int IntKind.i64, Kd.int IntKind.i64] L' e'] 4) = cond (decide ((m25 a b ng g L e).2 = 0)) (m25 a' b' ng' g' L' e').2 (m25 a b ng g L e).2 := by
  have h : o60_0 2 (datS [SV.str a, SV.int IntKind.i64 b, SV.ro [Kd.int IntKind.i64, Kd.int IntKind.i64] ng g, SV.ro [Kd.int IntKind.i64, Kd.int IntKind.i64, Kd.int IntKind.i64] L e, SV.str a', SV.int IntKind.i64 b', SV.ro [Kd.int IntKind.i64, Kd.int IntKind.i64] ng' g', SV.ro [Kd.int IntKind.i64, Kd.int IntKind.i64, Kd.int IntKind.i64] L' e'] 4) (↑(2 : Nat) : Int) 0 = cond (n19 a b ng g L e) (cond (bif decide ((m19 a b ng g L e).snd = 0) then false else true) (some (true, (m19 a b ng g L e).snd, default)) (cond (n19 a' b' ng' g' L' e') (cond (bif decide ((m19 a' b' ng' g' L' e').snd = 0) then false else true) (some (true, (m19 a' b' ng' g' L' e').snd, default)) (some (false, default, ()))) none)) none := by kernel_rfl
  obtain ⟨h1, h2, h3, _⟩ := plan_ok a b ng g L e ha hg hL
  obtain ⟨k1, k2, k3, _⟩ := plan_ok a' b' ng' g' L' e' ha' hg' hL'
  rw [h1, h3, k1, k3] at h
  simp only [n60, m60, h, cond_true]
  by_cases hz : (m25 a b ng g L e).2 = 0
  · by_cases kz : (m25 a' b' ng' g' L' e').2 = 0
    · rw [decide_eq_true hz, decide_eq_true kz, kz]; exact ⟨rfl, rfl⟩
    · rw [decide_eq_true hz, decide_eq_false kz]; exact ⟨rfl, rfl⟩
  · rw [decide_eq_false hz]; exact ⟨rfl, rfl⟩
theorem plans_same {a : ByteArray} {b : Int} {ng : Nat} {g g' : Dat} {L : Nat} {e e' : Dat} (hg : ng ≤ 9223372036854775807) (hL : L ≤ 9223372036854775807) (h : ∀ q, q < ng → g.ii q 0 = g'.ii q 0 ∧ g.ii q 1 = g'.ii q 1) (k : ∀ q, q < L → e.ii q 0 = e'.ii q 0 ∧ e.ii q 1 = e'.ii q 1 ∧ e.ii q 2 = e'.ii q 2) :
    n38 a b ng g L e a b ng g' L e' = true ∧ m38 a b ng g L e a b ng g' L e' = true := by
  have h0 : o38_0 a b ng g L e a b ng g' L e' 0 = some (first (fun _ => none) (false, default, ()) ng 0) := loop_first (n := ng) (l := l38_0 a b ng g L e a b ng g' L e') hg (fun f i hi => by
    have q := h i hi
    simp only [l38_0, cdl hi, cdd hi, cond_true, cond_false, Int.toNat_natCast, q.1, q.2, decide_true]; rfl) (fun f => by simp only [l38_0, cdn]; rfl) ng 0 _ (by omega) (by omega)
  have h2 : o38_2 a b ng g L e a b ng g' L e' 0 = some (first (fun _ => none) (false, default, ()) L 0) := loop_first (n := L) (l := l38_2 a b ng g L e a b ng g' L e') hL (fun f i hi => by
    have q := k i hi
    simp only [l38_2, cdl hi, cdd hi, cond_true, cond_false, Int.toNat_natCast, q.1, q.2.1, q.2.2, decide_true]; rfl) (fun f => by simp only [l38_2, cdn]; rfl) L 0 _ (by omega) (by omega)
  have hf : ∀ n, first (fun _ : Nat => (none : Option (Bool × Bool × Unit))) (false, default, ()) n 0 = (false, default, ()) := fun n => first_none fun _ _ _ => rfl
  rw [hf] at h0 h2
  simp only [n38, m38, h0, h2, decide_true, Option.getD_some, Option.isSome_some, cond_true, cond_false, Bool.and_self]
  exact ⟨trivial, trivial⟩
theorem concat_ok {L L' : Nat} {e e' : Dat} (h : L + L' ≤ 1073741824) :
    n72 2 (datS [SV.ro [Kd.int IntKind.i64, Kd.int IntKind.i64, Kd.int IntKind.i64] L e, SV.ro [Kd.int IntKind.i64, Kd.int IntKind.i64, Kd.int IntKind.i64] L' e'] 1) = true ∧
    m72 2 (datS [SV.ro [Kd.int IntKind.i64, Kd.int IntKind.i64, Kd.int IntKind.i64] L e, SV.ro [Kd.int IntKind.i64, Kd.int IntKind.i64, Kd.int IntKind.i64] L' e'] 1) = (L + L', e.app L e') := by
  have h0 : o72_0 2 (datS [SV.ro [Kd.int IntKind.i64, Kd.int IntKind.i64, Kd.int IntKind.i64] L e, SV.ro [Kd.int IntKind.i64, Kd.int IntKind.i64, Kd.int IntKind.i64] L' e'] 1) (datS [SV.ro [Kd.int IntKind.i64, Kd.int IntKind.i64, Kd.int IntKind.i64] L e, SV.ro [Kd.int IntKind.i64, Kd.int IntKind.i64, Kd.int IntKind.i64] L' e'] 1) (↑(2 : Nat) : Int) 0 0 = cond (decide (IntKind.i64.wrap (0 + (L : Int)) < 0)) none (cond (decide (IntKind.i64.wrap (IntKind.i64.wrap (0 + (L : Int)) + (L' : Int)) < 0)) none (some (IntKind.i64.wrap (IntKind.i64.wrap (0 + (L : Int)) + (L' : Int))))) := by kernel_rfl
  have h2 : o72_2 2 (datS [SV.ro [Kd.int IntKind.i64, Kd.int IntKind.i64, Kd.int IntKind.i64] L e, SV.ro [Kd.int IntKind.i64, Kd.int IntKind.i64, Kd.int IntKind.i64] L' e'] 1) (↑(2 : Nat) : Int) 0 0 noDat = cond (decide (0 + L ≤ 1073741824)) (cond (decide (0 + L + L' ≤ 1073741824)) (some (0 + L + L', 0 + L + L', (noDat.app 0 e).app (0 + L) e')) none) none := by kernel_rfl
  have w1 : IntKind.i64.wrap (0 + (L : Int)) = (L : Int) := by rw [wr (by omega) (by omega)]; omega
  have w2 : IntKind.i64.wrap ((L : Int) + (L' : Int)) = ((L + L' : Nat) : Int) := by rw [wr (by omega) (by omega)]; omega
  rw [w1, w2, decide_eq_false (show ¬ (L : Int) < 0 by omega), decide_eq_false (show ¬ ((L + L' : Nat) : Int) < 0 by omega)] at h0
  rw [Nat.zero_add, app_nil0, decide_eq_true (show L ≤ 1073741824 by omega), decide_eq_true h] at h2
  have n97t : n97 ((L + L' : Nat) : Int) = true := decide_eq_true (by omega)
  constructor
  · simp only [n72, h0, h2, cond_true, cond_false, Option.getD_some, Option.isSome_some, n97t, Nat.zero_add, Nat.le_refl, decide_true, Bool.and_self]
  · simp only [m72, h2, cond_true, Option.getD_some]
theorem extended_ok {a : ByteArray} {b : Int} {ng : Nat} {g : Dat} {L : Nat} {e : Dat} {L' : Nat} {e' : Dat} (ha : a.size ≤ 9223372036854775807) (hg : ng ≤ 1073741824) (hL : L + L' ≤ 1073741824) :
    n35 a b ng g L e L' e' = true ∧ m35 a b ng g L e L' e' = cond (decide ((m25 a b ng g L e).2 = 0)) (cond (decide ((m25 a b ng g (L + L') (e.app L e')).2 = 0)) (a, b, ng, g, L + L', e.app L e', 0) (({ data := #[] } : ByteArray), 0, 0, noDat, 0, noDat, (m25 a b ng g (L + L') (e.app L e')).2)) (({ data := #[] } : ByteArray), 0, 0, noDat, 0, noDat, (m25 a b ng g L e).2) := by
  obtain ⟨c1, c2⟩ := concat_ok (e := e) (e' := e') hL
  obtain ⟨t1, t2⟩ := two_plans a b ng g L e a b ng g (L + L') (e.app L e') ha (by omega) (by omega) ha (by omega) (by omega)
  constructor
  · simp only [n35, c1, c2, t1, decide_eq_true hg, Bool.and_self]
  · simp only [m35, c2, t2]
    by_cases hz : (m25 a b ng g L e).2 = 0
    · rw [decide_eq_true hz]
      by_cases kz : (m25 a b ng g (L + L') (e.app L e')).2 = 0
      · simp only [kz, decide_true, cond_true, cond_false]
      · simp only [decide_eq_false kz, cond_true, cond_false]
    · simp only [decide_eq_false hz, cond_true, cond_false]
end Go.Proofs.YtchhhoamnagbfaaDoor

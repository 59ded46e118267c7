/-
  Two plans, copied plans, equal plans, legs behind legs: plain law. Conditions: none.
-/
import Derived.Test.YtchhhoamnagbfaaDoorIPPlans
namespace Go.Proofs.YtchhhoamnagbfaaDoor
open Go Go.Sy
set_option linter.unusedVariables false
set_option linter.unusedSimpArgs false
set_option maxRecDepth 100000
theorem few_bnd {a : ByteArray} {b : Int} {ng : Nat} {g : Dat} {L : Nat} {e : Dat} (hs : m18 a b ng g L e = true) : a.size ≤ 20 ∧ ng ≤ 10 ∧ L ≤ 62 := by
  simp only [m18] at hs
  by_cases h1 : (a.size : Int) ≤ 20
  · by_cases h2 : (ng : Int) ≤ 10
    · by_cases h3 : (L : Int) ≤ 10
      · omega
      · by_cases h4 : (60 : Int) < (L : Int)
        · have : decide ((L : Int) ≤ 62) = true := by simpa [h1, h2, h3, h4] using hs
          have := of_decide_eq_true this; omega
        · simp [h1, h2, h3, h4] at hs
    · simp [h1, h2] at hs
  · simp [h1] at hs
theorem copies_ok {a : ByteArray} {b : Int} {ng : Nat} {g : Dat} {L : Nat} {e : Dat} (hg : ng ≤ 1073741824) (hL : L ≤ 1073741824) : n20 a b ng g L e = true ∧ m20 a b ng g L e = (a, b, ng, g, L, e) := by
  have n59t : n59 ng g = true := by simp only [n59, Nat.zero_add, decide_eq_true hg, Nat.le_refl, decide_true]; rfl
  have n36t : n36 L e = true := by simp only [n36, Nat.zero_add, decide_eq_true hL, Nat.le_refl, decide_true]; rfl
  exact ⟨by simp only [n20, n59t, n36t]; rfl, by simp only [m20, m59, m36, Nat.zero_add, app_nil0]⟩
theorem two_plans (a : ByteArray) (b : Int) (ng : Nat) (g : Dat) (L : Nat) (e : Dat) (a' : ByteArray) (b' : Int) (ng' : Nat) (g' : Dat) (L' : Nat) (e' : Dat) (ha : a.size ≤ 9223372036854775807) (hg : ng ≤ 9223372036854775807) (hL : L ≤ 9223372036854775807) (ha' : a'.size ≤ 9223372036854775807) (hg' : ng' ≤ 9223372036854775807) (hL' : L' ≤ 9223372036854775807) :
    n60 2 (datS [SV.str a, SV.int IntKind.i64 b, SV.ro [Kd.int IntKind.i64, Kd.int IntKind.i64] ng g, SV.ro [Kd.int IntKind.i64, Kd.int IntKind.i64, Kd.int IntKind.i64] L e, SV.str a', SV.int IntKind.i64 b', SV.ro [Kd.int IntKind.i64, Kd.int IntKind.i64] ng' g', SV.ro [Kd.int IntKind.i64, Kd.int IntKind.i64, Kd.int IntKind.i64] L' e'] 4) = true ∧
    m60 2 (datS [SV.str a, SV.int IntKind.i64 b, SV.ro [Kd.int IntKind.i64, Kd.int IntKind.i64] ng g, SV.ro [Kd.int IntKind.i64, Kd.int IntKind.i64, Kd.int IntKind.i64] L e, SV.str a', SV.int IntKind.i64 b', SV.ro [Kd.int IntKind.i64, Kd.int IntKind.i64] ng' g', SV.ro [Kd.int IntKind.i64, Kd.int IntKind.i64, Kd.int IntKind.i64] L' e'] 4) = cond (decide ((m25 a b ng g L e).2 = 0)) (m25 a' b' ng' g' L' e').2 (m25 a b ng g L e).2 := by
  have h : o60_0 2 (datS [SV.str a, SV.int IntKind.i64 b, SV.ro [Kd.int IntKind.i64, Kd.int IntKind.i64] ng g, SV.ro [Kd.int IntKind.i64, Kd.int IntKind.i64, Kd.int IntKind.i64] L e, SV.str a', SV.int IntKind.i64 b', SV.ro [Kd.int IntKind.i64, Kd.int IntKind.i64] ng' g', SV.ro [Kd.int IntKind.i64, Kd.int IntKind.i64, Kd.int IntKind.i64] L' e'] 4) (↑(2 : Nat) : Int) 0 = cond (n19 a b ng g L e) (cond (bif decide ((m19 a b ng g L e).snd = 0) then false else true) (some (true, (m19 a b ng g L e).snd, default)) (cond (n19 a' b' ng' g' L' e') (cond (bif decide ((m19 a' b' ng' g' L' e').snd = 0) then false else true) (some (true, (m19 a' b' ng' g' L' e').snd, default)) (some (false, default, ()))) none)) none := by kernel_rfl
  obtain ⟨h1, h2, h3, _⟩ := plan_ok a b ng g L e ha hg hL
  obtain ⟨k1, k2, k3, _⟩ := plan_ok a' b' ng' g' L' e' ha' hg' hL'
  rw [h1, h3, k1, k3] at h
  simp only [n60, m60, h, cond_true]
  by_cases hz : (m25 a b ng g L e).2 = 0
  · by_cases kz : (m25 a' b' ng' g' L' e').2 = 0
    · rw [decide_eq_true hz, decide_eq_true kz, kz]; exact ⟨rfl, rfl⟩
    · rw [decide_eq_true hz, decide_eq_false kz]; exact ⟨rfl, rfl⟩
  · rw [decide_eq_false hz]; exact ⟨rfl, rfl⟩
theorem plans_same {a : ByteArray} {b : Int} {ng : Nat} {g g' : Dat} {L : Nat} {e e' : Dat} (hg : ng ≤ 9223372036854775807) (hL : L ≤ 9223372036854775807) (h : ∀ q, q < ng → g.ii q 0 = g'.ii q 0 ∧ g.ii q 1 = g'.ii q 1) (k : ∀ q, q < L → e.ii q 0 = e'.ii q 0 ∧ e.ii q 1 = e'.ii q 1 ∧ e.ii q 2 = e'.ii q 2) :
    n38 a b ng g L e a b ng g' L e' = true ∧ m38 a b ng g L e a b ng g' L e' = true := by
  have h0 : o38_0 a b ng g L e a b ng g' L e' 0 = some (first (fun _ => none) (false, default, ()) ng 0) := loop_first (n := ng) (l := l38_0 a b ng g L e a b ng g' L e') hg (fun f i hi => by
    have q := h i hi
    simp only [l38_0, cdl hi, cdd hi, cond_true, cond_false, Int.toNat_natCast, q.1, q.2, decide_true]; rfl) (fun f => by simp only [l38_0, cdn]; rfl) ng 0 _ (by omega) (by omega)
  have h2 : o38_2 a b ng g L e a b ng g' L e' 0 = some (first (fun _ => none) (false, default, ()) L 0) := loop_first (n := L) (l := l38_2 a b ng g L e a b ng g' L e') hL (fun f i hi => by
    have q := k i hi
    simp only [l38_2, cdl hi, cdd hi, cond_true, cond_false, Int.toNat_natCast, q.1, q.2.1, q.2.2, decide_true]; rfl) (fun f => by simp only [l38_2, cdn]; rfl) L 0 _ (by omega) (by omega)
  have hf : ∀ n, first (fun _ : Nat => (none : Option (Bool × Bool × Unit))) (false, default, ()) n 0 = (false, default, ()) := fun n => first_none fun _ _ _ => rfl
  rw [hf] at h0 h2
  simp only [n38, m38, h0, h2, decide_true, Option.getD_some, Option.isSome_some, cond_true, cond_false, Bool.and_self]
  exact ⟨trivial, trivial⟩
end Go.Proofs.YtchhhoamnagbfaaDoor

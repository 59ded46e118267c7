/-
  The law of depths: plain law. Conditions: none.
-/
import Derived.Test.YtchhhoamnagbfaaDoorCPAwake
namespace Go.Proofs.YtchhhoamnagbfaaDoor
open Go Go.Sy
set_option linter.unusedVariables false
set_option linter.unusedSimpArgs false
set_option maxRecDepth 100000
theorem app_nil0 (e d : Dat) : e.app 0 d = d := by
  have h : ∀ q : Nat, Nat.blt q 0 = false := fun q => rfl
  cases d
  simp only [Dat.app, h, cond_false, Nat.sub_zero]
theorem copy_eq (n : Nat) (d : Dat) : m13 n d = (n, d) := by
  simp only [m13, Nat.zero_add, app_nil0]
def RAt (n : Nat) (d : Dat) (x num den : Int) : Prop := ∃ r, 1 ≤ r ∧ r < n ∧ d.ii (r - 1) 0 ≤ x ∧ x ≤ d.ii r 0 ∧ num = d.ii (r - 1) 1 * (d.ii r 0 - d.ii (r - 1) 0) + (d.ii r 1 - d.ii (r - 1) 1) * (x - d.ii (r - 1) 0) ∧ den = d.ii r 0 - d.ii (r - 1) 0
theorem ref_run {n : Nat} {d : Dat} (T : Trk n d) {x : Int} (hx : x ≤ d.ii (n - 1) 0) : ∀ (k i f : Nat), i + k = n → k < f → 1 ≤ i → 0 < k → d.ii (i - 1) 0 ≤ x → ∃ num den, l55_0 n d x f (i : Int) = some (true, (num, den), default) ∧ RAt n d x num den
  | 0, i, f, _, _, _, h, _ => absurd h (Nat.lt_irrefl _)
  | k + 1, i, f, hi, hf, h1, _, h0 => by
    obtain ⟨f, rfl⟩ : ∃ f', f = f' + 1 := ⟨f - 1, by omega⟩
    have few := T.few
    have hlt : i < n := by omega
    have t1 : IntKind.i64.wrap ((i : Int) - 1) = (i : Int) - 1 := wr (by omega) (by omega)
    have t2 : ((i : Int) - 1).toNat = i - 1 := by omega
    have z1 : decide (0 ≤ (i : Int) - 1 ∧ (i : Int) - 1 < (n : Int)) = true := decide_eq_true ⟨by omega, by omega⟩
    by_cases hh : x ≤ d.ii i 0
    · have a := T.dep (i - 1) (by omega); have b := T.dep i hlt
      have q1 := T.sec (i - 1) (by omega); have q2 := T.sec i hlt
      have up := T.lt (show i - 1 < i by omega) hlt
      have w1 : IntKind.i64.wrap (d.ii i 0 - d.ii (i - 1) 0) = d.ii i 0 - d.ii (i - 1) 0 := wr (by omega) (by omega)
      have w2 : IntKind.i64.wrap (d.ii i 1 - d.ii (i - 1) 1) = d.ii i 1 - d.ii (i - 1) 1 := wr (by omega) (by omega)
      have w3 : IntKind.i64.wrap (x - d.ii (i - 1) 0) = x - d.ii (i - 1) 0 := wr (by omega) (by omega)
      have p1 := mulb a.1 a.2 (show 0 ≤ d.ii i 0 - d.ii (i - 1) 0 by omega) (show d.ii i 0 - d.ii (i - 1) 0 ≤ 1000001 by omega)
      have p2 := mulb b.1 b.2 (show 0 ≤ x - d.ii (i - 1) 0 by omega) (show x - d.ii (i - 1) 0 ≤ 1000001 by omega)
      have p3 := mulb a.1 a.2 (show 0 ≤ x - d.ii (i - 1) 0 by omega) (show x - d.ii (i - 1) 0 ≤ 1000001 by omega)
      have e : (d.ii i 1 - d.ii (i - 1) 1) * (x - d.ii (i - 1) 0) = d.ii i 1 * (x - d.ii (i - 1) 0) - d.ii (i - 1) 1 * (x - d.ii (i - 1) 0) := Int.sub_mul _ _ _
      refine ⟨_, _, ?_, i, h1, hlt, h0, hh, rfl, rfl⟩
      simp only [l55_0, cdl hlt, cdd hlt, t1, t2, z1, w1, w2, w3, Int.toNat_natCast, decide_eq_true hh, cond_true]
      rw [wr (n := d.ii (i - 1) 1 * (d.ii i 0 - d.ii (i - 1) 0)) (by omega) (by omega), wr (n := (d.ii i 1 - d.ii (i - 1) 1) * (x - d.ii (i - 1) 0)) (by omega) (by omega), wr (by omega) (by omega)]
    · have hk : 0 < k := by
        apply Decidable.byContradiction
        intro hk
        have : i = n - 1 := by omega
        subst this
        exact hh hx
      obtain ⟨num, den, g1, g2⟩ := ref_run T hx k (i + 1) f (by omega) (by omega) (by omega) hk (by rw [Nat.add_sub_cancel]; omega)
      refine ⟨num, den, ?_, g2⟩
      simp only [l55_0, cdl hlt, cdd hlt, Int.toNat_natCast, decide_eq_false hh, wrS hlt (by omega), cond_true, cond_false]
      exact g1
theorem ref_at {n : Nat} {d : Dat} (T : Trk n d) {x : Int} (h0 : d.ii 0 0 ≤ x) (hx : x ≤ d.ii (n - 1) 0) : n55 n d x = true ∧ RAt n d x (m55 n d x).1 (m55 n d x).2 := by
  have two := T.two; have few := T.few
  have h := fun F (hF : n < F) => ref_run T hx (n - 1) 1 F (by omega) (by omega) (by decide) (by omega) h0
  obtain ⟨num, den, o, g⟩ : ∃ num den, o55_0 n d x 1 = some (true, (num, den), default) ∧ RAt n d x num den := by
    unfold o55_0
    generalize x.toNat = y1
    exact h _ (by omega)
  exact ⟨by simp only [n55, o]; rfl, by simp only [m55, o, Option.getD_some, cond_true]; exact g⟩
theorem at_ref {n : Nat} {d : Dat} (T : Trk n d) {x num den num' den' : Int} (h : At n d x num den) (h' : RAt n d x num' den') : num * den' = num' * den ∧ (1 ≤ den' ∧ den' ≤ 1000001) := by
  obtain ⟨r, r1, rn, s1, s2, rfl, rfl⟩ := h'
  have up := T.lt (show r - 1 < r by omega) rn
  have q1 := T.sec (r - 1) (by omega); have q2 := T.sec r rn
  refine ⟨?_, by omega⟩
  rcases h with ⟨k, hk, rfl, rfl, rfl⟩ | ⟨q, hq, k1, k2, rfl, rfl⟩
  · have hkr : k = r - 1 ∨ k = r := by
      rcases Nat.lt_trichotomy k (r - 1) with h | h | h
      · have := T.lt h (by omega); omega
      · exact .inl h
      · by_cases h2 : k ≤ r
        · exact .inr (by omega)
        · have := T.lt (show r < k by omega) hk; omega
    rcases hkr with rfl | rfl
    · rw [Int.sub_self, Int.mul_zero, Int.add_zero, Int.mul_one]
    · rw [Int.mul_one, Int.sub_mul]; omega
  · have hqr : q = r - 1 := by
      rcases Nat.lt_trichotomy q (r - 1) with h | h | h
      · have := T.le (show q + 1 ≤ r - 1 by omega) (by omega); omega
      · exact h
      · have := T.le (show r ≤ q by omega) (by omega); omega
    subst hqr
    rw [show r - 1 + 1 = r by omega]
    congr 1
    rw [Int.sub_mul, Int.mul_sub, Int.mul_sub, Int.mul_sub, Int.mul_sub]
    omega
theorem ceil_eq {X W : Int} (hW : 0 < W) : (X + W - 1) / W = -((-X) / W) := by
  have e := Int.mul_ediv_add_emod (-X) W
  have r0 := Int.emod_nonneg (-X) (show W ≠ 0 by omega)
  have r1 := Int.emod_lt_of_pos (-X) hW
  refine ((Int.ediv_emod_unique (r := W - 1 - (-X) % W) hW).2 ⟨?_, by omega, by omega⟩).1
  rw [Int.mul_neg]; omega
theorem RAt.bnd {n : Nat} {d : Dat} (T : Trk n d) {x num den : Int} (h : RAt n d x num den) : (1 ≤ den ∧ den ≤ 1000001) ∧ 0 ≤ num ∧ num ≤ 30000030000 := by
  obtain ⟨r, r1, rn, s1, s2, rfl, rfl⟩ := h
  have up := T.lt (show r - 1 < r by omega) rn
  have q1 := T.sec (r - 1) (by omega); have q2 := T.sec r rn
  have a := T.dep (r - 1) (by omega); have b := T.dep r rn
  have p1 := mulb a.1 a.2 (show 0 ≤ d.ii r 0 - x by omega) (Int.le_refl _)
  have p2 := mulb b.1 b.2 (show 0 ≤ x - d.ii (r - 1) 0 by omega) (Int.le_refl _)
  have e : d.ii (r - 1) 1 * (d.ii r 0 - d.ii (r - 1) 0) + (d.ii r 1 - d.ii (r - 1) 1) * (x - d.ii (r - 1) 0) = d.ii (r - 1) 1 * (d.ii r 0 - x) + d.ii r 1 * (x - d.ii (r - 1) 0) := by
    rw [Int.sub_mul, Int.mul_sub, Int.mul_sub, Int.mul_sub, Int.mul_sub]; omega
  rw [e]
  omega
end Go.Proofs.YtchhhoamnagbfaaDoor

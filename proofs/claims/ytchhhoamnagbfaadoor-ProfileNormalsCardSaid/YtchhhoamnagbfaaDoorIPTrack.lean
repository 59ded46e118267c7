/-
  Profiles as tracks: the check, the depth at a second, the allowed steps: plain law. Conditions: none.
-/
import Derived.Test.YtchhhoamnagbfaaDoorIFNormals
namespace Go.Proofs.YtchhhoamnagbfaaDoor
open Go Go.Sy
set_option linter.unusedVariables false
set_option linter.unusedSimpArgs false
set_option maxRecDepth 100000
attribute [local simp] brk
theorem wr {n : Int} (h0 : -9223372036854775808 ≤ n) (h1 : n ≤ 9223372036854775807) : IntKind.i64.wrap n = n := wrp h0 h1
theorem m52_iff {x a b : Int} : m52 x a b = true ↔ a ≤ x ∧ x ≤ b := by
  simp only [m52]
  by_cases h1 : a ≤ x <;> by_cases h2 : x ≤ b <;> simp [h1, h2]
theorem mulb {x y A B : Int} (hx0 : 0 ≤ x) (hx : x ≤ A) (hy0 : 0 ≤ y) (hy : y ≤ B) : 0 ≤ x * y ∧ x * y ≤ A * B :=
  ⟨Int.mul_nonneg hx0 hy0, Int.le_trans (Int.mul_le_mul_of_nonneg_right hx hy0) (Int.mul_le_mul_of_nonneg_left hy (by omega))⟩
structure Trk (n : Nat) (d : Dat) : Prop where
  two : 2 ≤ n
  few : n ≤ 200
  sec : ∀ i, i < n → 0 ≤ d.ii i 0 ∧ d.ii i 0 ≤ 1000001
  dep : ∀ i, i < n → 0 ≤ d.ii i 1 ∧ d.ii i 1 ≤ 30000
  up : ∀ i, i + 1 < n → d.ii i 0 < d.ii (i + 1) 0
theorem Trk.lt {n : Nat} {d : Dat} (T : Trk n d) : ∀ {i j : Nat}, i < j → j < n → d.ii i 0 < d.ii j 0
  | i, 0, h, _ => absurd h (Nat.not_lt_zero _)
  | i, j + 1, h, hj => by
    have a := T.up j hj
    by_cases e : i = j
    · subst e; exact a
    · have := T.lt (show i < j by omega) (by omega); omega
theorem Trk.le {n : Nat} {d : Dat} (T : Trk n d) {i j : Nat} (h : i ≤ j) (hj : j < n) : d.ii i 0 ≤ d.ii j 0 := by
  by_cases e : i = j
  · subst e; exact Int.le_refl _
  · exact Int.le_of_lt (T.lt (by omega) hj)
theorem leg_ok {n : Nat} {d : Dat} (T : Trk n d) {x : Int} (hx : x ≤ d.ii (n - 1) 0) : n79 n d x = true ∧ ∃ r : Nat, 1 ≤ r ∧ r < n ∧ x ≤ d.ii r 0 ∧ (∀ j, 1 ≤ j → j < r → d.ii j 0 < x) ∧ m79 n d x = (r : Int) := by
  have two := T.two; have few := T.few
  have o : o100c101_0 (n - 1) (d.shift 1) (datC [SV.int IntKind.i64 x]) ((n - 1 : Nat) : Int) 0 = some (first (fun i => cond (decide (x ≤ d.ii (1 + i) 0)) (some (true, (i : Int), default)) none) (false, default, ()) (n - 1) 0) := by
    refine loop_first (n := n - 1) (l := l100c101_0 (n - 1) (d.shift 1) (datC [SV.int IntKind.i64 x]) ((n - 1 : Nat) : Int)) (by omega) (fun f i hi => ?_) (fun f => by simp only [l100c101_0, cdn]; rfl) (n - 1) 0 _ (by omega) (by omega)
    have e : m101 ((d.shift 1).ii i 0) ((d.shift 1).ii i 1) (datC [SV.int IntKind.i64 x]) = decide (x ≤ d.ii (1 + i) 0) := by rw [shift_ii]; rfl
    simp only [l100c101_0, cdl hi, cdd hi, cond_true, Int.toNat_natCast, e]
    cases decide (x ≤ d.ii (1 + i) 0) <;> simp
  have e1 : (((n : Int)) - 1).toNat = n - 1 := by omega
  have z : decide ((0 : Int) ≤ (1 : Int) ∧ (1 : Int) ≤ (n : Int) ∧ (n : Int) ≤ (n : Int)) = true := decide_eq_true ⟨by omega, by omega, by omega⟩
  refine ⟨by simp only [n79, z, e1, n100c101, o]; rfl, ?_⟩
  rcases first_cases (g := fun i : Nat => cond (decide (x ≤ d.ii (1 + i) 0)) (some (true, (i : Int), (default : Unit))) none) (e := (false, default, ())) (n - 1) 0 with ⟨j, b, _, hj, h3, h4, h5⟩ | ⟨h1, _⟩
  · have hc : x ≤ d.ii (1 + j) 0 := by
      apply Decidable.byContradiction
      intro hh
      simp only [decide_eq_false hh, cond_false] at h3; cases h3
    simp only [decide_eq_true hc, cond_true] at h3
    refine ⟨1 + j, by omega, by omega, hc, fun k k1 k2 => ?_, ?_⟩
    · have := h4 (k - 1) (Nat.zero_le _) (by omega)
      rw [show 1 + (k - 1) = k by omega] at this
      apply Decidable.byContradiction
      intro hh
      simp only [decide_eq_true (show x ≤ d.ii k 0 by omega), cond_true] at this; cases this
    · simp only [m79, e1, m100c101, o, h5, ← Option.some.inj h3, Option.getD_some, cond_true]
      rw [wr (by omega) (by omega)]; omega
  · have := h1 (n - 2) (Nat.zero_le _) (by omega)
    rw [show 1 + (n - 2) = n - 1 by omega] at this
    simp only [decide_eq_true hx, cond_true] at this; cases this
def At (n : Nat) (d : Dat) (x num den : Int) : Prop :=
  (∃ k, k < n ∧ x = d.ii k 0 ∧ num = d.ii k 1 ∧ den = 1) ∨ ∃ r, r + 1 < n ∧ d.ii r 0 < x ∧ x < d.ii (r + 1) 0 ∧ num = d.ii r 1 * (d.ii (r + 1) 0 - x) + d.ii (r + 1) 1 * (x - d.ii r 0) ∧ den = d.ii (r + 1) 0 - d.ii r 0
theorem At.bnd {n : Nat} {d : Dat} (T : Trk n d) {x num den : Int} (h : At n d x num den) : (1 ≤ den ∧ den ≤ 1000001) ∧ 0 ≤ num ∧ num ≤ 30000 * den := by
  rcases h with ⟨k, hk, _, rfl, rfl⟩ | ⟨r, hr, h1, h2, rfl, rfl⟩
  · have := T.dep k hk; omega
  · have a := T.dep r (by omega); have b := T.dep (r + 1) hr
    have s1 := T.sec r (by omega); have s2 := T.sec (r + 1) hr
    have u := mulb a.1 a.2 (show 0 ≤ d.ii (r + 1) 0 - x by omega) (Int.le_refl _)
    have v := mulb b.1 b.2 (show 0 ≤ x - d.ii r 0 by omega) (Int.le_refl _)
    omega
theorem at_ok {n : Nat} {d : Dat} (T : Trk n d) {x : Int} (h0 : d.ii 0 0 ≤ x) (hx : x ≤ d.ii (n - 1) 0) : n53 n d x = true ∧ At n d x (m53 n d x).1 (m53 n d x).2 := by
  have two := T.two; have few := T.few
  obtain ⟨n36t, r, r1, rn, hr, hb, e⟩ := leg_ok T hx
  have z0 : decide ((r : Int) = 0) = false := decide_eq_false (by omega)
  have zz : decide ((0 : Int) ≤ (0 : Int) ∧ (0 : Int) < (n : Int)) = true := decide_eq_true ⟨by omega, by omega⟩
  have t1 : IntKind.i64.wrap ((r : Int) - 1) = (r : Int) - 1 := wr (by omega) (by omega)
  have t2 : ((r : Int) - 1).toNat = r - 1 := by omega
  have z1 : decide (0 ≤ (r : Int) - 1 ∧ (r : Int) - 1 < (n : Int)) = true := decide_eq_true ⟨by omega, by omega⟩
  have z2 : decide (0 ≤ (r : Int) ∧ (r : Int) < (n : Int)) = true := decide_eq_true ⟨by omega, by omega⟩
  constructor
  · simp only [n53, n36t, e, z0, zz, t1, z1, z2, cond_true, cond_false]
    cases decide (x = d.ii 0 0) <;> rfl
  · by_cases hx0 : x = d.ii 0 0
    · have : m53 n d x = (d.ii 0 1, 1) := by simp only [m53, e, z0, decide_eq_true hx0, cond_true, cond_false]
      rw [this]
      exact .inl ⟨0, by omega, hx0, rfl, rfl⟩
    · by_cases hxr : x = d.ii r 0
      · have : m53 n d x = (d.ii r 1, 1) := by simp only [m53, e, z0, decide_eq_false hx0, Int.toNat_natCast, decide_eq_true hxr, cond_true, cond_false]
        rw [this]
        exact .inl ⟨r, rn, hxr, rfl, rfl⟩
      · have s0 : d.ii (r - 1) 0 < x := by
          by_cases h : r = 1
          · subst h
            have : (1 : Nat) - 1 = 0 := rfl
            rw [this]; omega
          · exact hb (r - 1) (by omega) (by omega)
        have a := T.dep (r - 1) (by omega); have b := T.dep r rn
        have q1 := T.sec (r - 1) (by omega); have q2 := T.sec r rn
        have w1 : IntKind.i64.wrap (d.ii r 0 - x) = d.ii r 0 - x := wr (by omega) (by omega)
        have w2 : IntKind.i64.wrap (x - d.ii (r - 1) 0) = x - d.ii (r - 1) 0 := wr (by omega) (by omega)
        have w3 : IntKind.i64.wrap (d.ii r 0 - d.ii (r - 1) 0) = d.ii r 0 - d.ii (r - 1) 0 := wr (by omega) (by omega)
        have p1 := mulb a.1 a.2 (show 0 ≤ d.ii r 0 - x by omega) (show d.ii r 0 - x ≤ 1000001 by omega)
        have p2 := mulb b.1 b.2 (show 0 ≤ x - d.ii (r - 1) 0 by omega) (show x - d.ii (r - 1) 0 ≤ 1000001 by omega)
        have : m53 n d x = (d.ii (r - 1) 1 * (d.ii r 0 - x) + d.ii r 1 * (x - d.ii (r - 1) 0), d.ii r 0 - d.ii (r - 1) 0) := by
          simp only [m53, e, z0, decide_eq_false hx0, Int.toNat_natCast, decide_eq_false hxr, t1, t2, w1, w2, w3, cond_true, cond_false]
          rw [wr (n := d.ii (r - 1) 1 * (d.ii r 0 - x)) (by omega) (by omega), wr (n := d.ii r 1 * (x - d.ii (r - 1) 0)) (by omega) (by omega), wr (by omega) (by omega)]
        rw [this]
        refine .inr ⟨r - 1, by omega, s0, ?_, ?_, ?_⟩ <;> rw [show r - 1 + 1 = r by omega]
        omega
end Go.Proofs.YtchhhoamnagbfaaDoor

/-
  The law of seconds: plain law. Conditions: none.
-/
import Derived.Test.YtchhhoamnagbfaaGreatDoorAFSeconds
import Derived.KernelRfl
namespace Go.Proofs.YtchhhoamnagbfaaGreatDoor
open Go Go.Sy
set_option linter.unusedVariables false
set_option linter.unusedSimpArgs false
set_option maxRecDepth 100000
attribute [local simp] brk
theorem wr {n : Int} (h0 : -9223372036854775808 ≤ n) (h1 : n ≤ 9223372036854775807) : IntKind.i64.wrap n = n := wrp h0 h1
theorem m51_iff {x a b : Int} : m51 x a b = true ↔ a ≤ x ∧ x ≤ b := by
  simp only [m51]
  by_cases h1 : a ≤ x <;> by_cases h2 : x ≤ b <;> simp [h1, h2]
theorem m51_no {x a b : Int} (h : ¬ (a ≤ x ∧ x ≤ b)) : m51 x a b = false := by
  cases hh : m51 x a b with
  | true => exact (h (m51_iff.1 hh)).elim
  | false => rfl
theorem mulb {x y A B : Int} (hx0 : 0 ≤ x) (hx : x ≤ A) (hy0 : 0 ≤ y) (hy : y ≤ B) : 0 ≤ x * y ∧ x * y ≤ A * B :=
  ⟨Int.mul_nonneg hx0 hy0, Int.le_trans (Int.mul_le_mul_of_nonneg_right hx hy0) (Int.mul_le_mul_of_nonneg_left hy (by omega))⟩
structure Trk (n : Nat) (d : Dat) : Prop where
  two : 2 ≤ n
  few : n ≤ 200
  sec : ∀ i, i < n → 0 ≤ d.ii i 0 ∧ d.ii i 0 ≤ 1000001
  dep : ∀ i, i < n → 0 ≤ d.ii i 1 ∧ d.ii i 1 ≤ 30000
  up : ∀ i, i + 1 < n → d.ii i 0 < d.ii (i + 1) 0
theorem Trk.lt {n : Nat} {d : Dat} (T : Trk n d) : ∀ {i j : Nat}, i < j → j < n → d.ii i 0 < d.ii j 0
  | i, 0, h, _ => absurd h (Nat.not_lt_zero _)
  | i, j + 1, h, hj => by
    have a := T.up j hj
    by_cases e : i = j
    · subst e; exact a
    · have := T.lt (show i < j by omega) (by omega); omega
theorem Trk.le {n : Nat} {d : Dat} (T : Trk n d) {i j : Nat} (h : i ≤ j) (hj : j < n) : d.ii i 0 ≤ d.ii j 0 := by
  by_cases e : i = j
  · subst e; exact Int.le_refl _
  · exact Int.le_of_lt (T.lt (by omega) hj)
theorem leg_ok {n : Nat} {d : Dat} (T : Trk n d) {x : Int} (hx : x ≤ d.ii (n - 1) 0) : n35 n d x = true ∧ ∃ r : Nat, 1 ≤ r ∧ r < n ∧ x ≤ d.ii r 0 ∧ (∀ j, 1 ≤ j → j < r → d.ii j 0 < x) ∧ m35 n d x = (r : Int) := by
  have two := T.two; have few := T.few
  have o : o59c60_0 (n - 1) (d.shift 1) (datC [SV.int IntKind.i64 x]) ((n - 1 : Nat) : Int) 0 = some (first (fun i => cond (decide (x ≤ d.ii (1 + i) 0)) (some (true, (i : Int), default)) none) (false, default, ()) (n - 1) 0) := by
    refine loop_first (n := n - 1) (l := l59c60_0 (n - 1) (d.shift 1) (datC [SV.int IntKind.i64 x]) ((n - 1 : Nat) : Int)) (by omega) (fun f i hi => ?_) (fun f => by simp only [l59c60_0, cdn]; rfl) (n - 1) 0 _ (by omega) (by omega)
    have e : m60 ((d.shift 1).ii i 0) ((d.shift 1).ii i 1) (datC [SV.int IntKind.i64 x]) = decide (x ≤ d.ii (1 + i) 0) := by rw [shift_ii]; rfl
    simp only [l59c60_0, cdl hi, cdd hi, cond_true, Int.toNat_natCast, e]
    cases decide (x ≤ d.ii (1 + i) 0) <;> simp
  have e1 : (((n : Int)) - 1).toNat = n - 1 := by omega
  have z : decide ((0 : Int) ≤ (1 : Int) ∧ (1 : Int) ≤ (n : Int) ∧ (n : Int) ≤ (n : Int)) = true := decide_eq_true ⟨by omega, by omega, by omega⟩
  refine ⟨by simp only [n35, z, e1, n59c60, o]; rfl, ?_⟩
  rcases first_cases (g := fun i : Nat => cond (decide (x ≤ d.ii (1 + i) 0)) (some (true, (i : Int), (default : Unit))) none) (e := (false, default, ())) (n - 1) 0 with ⟨j, b, _, hj, h3, h4, h5⟩ | ⟨h1, _⟩
  · have hc : x ≤ d.ii (1 + j) 0 := by
      apply Decidable.byContradiction
      intro hh
      simp only [decide_eq_false hh, cond_false] at h3; cases h3
    simp only [decide_eq_true hc, cond_true] at h3
    refine ⟨1 + j, by omega, by omega, hc, fun k k1 k2 => ?_, ?_⟩
    · have := h4 (k - 1) (Nat.zero_le _) (by omega)
      rw [show 1 + (k - 1) = k by omega] at this
      apply Decidable.byContradiction
      intro hh
      simp only [decide_eq_true (show x ≤ d.ii k 0 by omega), cond_true] at this; cases this
    · simp only [m35, e1, m59c60, o, h5, ← Option.some.inj h3, Option.getD_some, cond_true]
      rw [wr (by omega) (by omega)]; omega
  · have := h1 (n - 2) (Nat.zero_le _) (by omega)
    rw [show 1 + (n - 2) = n - 1 by omega] at this
    simp only [decide_eq_true hx, cond_true] at this; cases this
def At (n : Nat) (d : Dat) (x num den : Int) : Prop :=
  (∃ k, k < n ∧ x = d.ii k 0 ∧ num = d.ii k 1 ∧ den = 1) ∨ ∃ r, r + 1 < n ∧ d.ii r 0 < x ∧ x < d.ii (r + 1) 0 ∧ num = d.ii r 1 * (d.ii (r + 1) 0 - x) + d.ii (r + 1) 1 * (x - d.ii r 0) ∧ den = d.ii (r + 1) 0 - d.ii r 0
theorem At.bnd {n : Nat} {d : Dat} (T : Trk n d) {x num den : Int} (h : At n d x num den) : (1 ≤ den ∧ den ≤ 1000001) ∧ 0 ≤ num ∧ num ≤ 30000 * den := by
  rcases h with ⟨k, hk, _, rfl, rfl⟩ | ⟨r, hr, h1, h2, rfl, rfl⟩
  · have := T.dep k hk; omega
  · have a := T.dep r (by omega); have b := T.dep (r + 1) hr
    have s1 := T.sec r (by omega); have s2 := T.sec (r + 1) hr
    have u := mulb a.1 a.2 (show 0 ≤ d.ii (r + 1) 0 - x by omega) (Int.le_refl _)
    have v := mulb b.1 b.2 (show 0 ≤ x - d.ii r 0 by omega) (Int.le_refl _)
    omega
theorem at_ok {n : Nat} {d : Dat} (T : Trk n d) {x : Int} (h0 : d.ii 0 0 ≤ x) (hx : x ≤ d.ii (n - 1) 0) : n31 n d x = true ∧ At n d x (m31 n d x).1 (m31 n d x).2 := by
  have two := T.two; have few := T.few
  obtain ⟨n36t, r, r1, rn, hr, hb, e⟩ := leg_ok T hx
  have z0 : decide ((r : Int) = 0) = false := decide_eq_false (by omega)
  have zz : decide ((0 : Int) ≤ (0 : Int) ∧ (0 : Int) < (n : Int)) = true := decide_eq_true ⟨by omega, by omega⟩
  have t1 : IntKind.i64.wrap ((r : Int) - 1) = (r : Int) - 1 := wr (by omega) (by omega)
  have t2 : ((r : Int) - 1).toNat = r - 1 := by omega
  have z1 : decide (0 ≤ (r : Int) - 1 ∧ (r : Int) - 1 < (n : Int)) = true := decide_eq_true ⟨by omega, by omega⟩
  have z2 : decide (0 ≤ (r : Int) ∧ (r : Int) < (n : Int)) = true := decide_eq_true ⟨by omega, by omega⟩
  constructor
  · simp only [n31, n36t, e, z0, zz, t1, z1, z2, cond_true, cond_false]
    cases decide (x = d.ii 0 0) <;> rfl
  · by_cases hx0 : x = d.ii 0 0
    · have : m31 n d x = (d.ii 0 1, 1) := by simp only [m31, e, z0, decide_eq_true hx0, cond_true, cond_false]
      rw [this]
      exact .inl ⟨0, by omega, hx0, rfl, rfl⟩
    · by_cases hxr : x = d.ii r 0
      · have : m31 n d x = (d.ii r 1, 1) := by simp only [m31, e, z0, decide_eq_false hx0, Int.toNat_natCast, decide_eq_true hxr, cond_true, cond_false]
        rw [this]
        exact .inl ⟨r, rn, hxr, rfl, rfl⟩
      · have s0 : d.ii (r - 1) 0 < x := by
          by_cases h : r = 1
          · subst h
            have : (1 : Nat) - 1 = 0 := rfl
            rw [this]; omega
          · exact hb (r - 1) (by omega) (by omega)
        have a := T.dep (r - 1) (by omega); have b := T.dep r rn
        have q1 := T.sec (r - 1) (by omega); have q2 := T.sec r rn
        have w1 : IntKind.i64.wrap (d.ii r 0 - x) = d.ii r 0 - x := wr (by omega) (by omega)
        have w2 : IntKind.i64.wrap (x - d.ii (r - 1) 0) = x - d.ii (r - 1) 0 := wr (by omega) (by omega)
        have w3 : IntKind.i64.wrap (d.ii r 0 - d.ii (r - 1) 0) = d.ii r 0 - d.ii (r - 1) 0 := wr (by omega) (by omega)
        have p1 := mulb a.1 a.2 (show 0 ≤ d.ii r 0 - x by omega) (show d.ii r 0 - x ≤ 1000001 by omega)
        have p2 := mulb b.1 b.2 (show 0 ≤ x - d.ii (r - 1) 0 by omega) (show x - d.ii (r - 1) 0 ≤ 1000001 by omega)
        have : m31 n d x = (d.ii (r - 1) 1 * (d.ii r 0 - x) + d.ii r 1 * (x - d.ii (r - 1) 0), d.ii r 0 - d.ii (r - 1) 0) := by
          simp only [m31, e, z0, decide_eq_false hx0, Int.toNat_natCast, decide_eq_false hxr, t1, t2, w1, w2, w3, cond_true, cond_false]
          rw [wr (n := d.ii (r - 1) 1 * (d.ii r 0 - x)) (by omega) (by omega), wr (n := d.ii r 1 * (x - d.ii (r - 1) 0)) (by omega) (by omega), wr (by omega) (by omega)]
        rw [this]
        refine .inr ⟨r - 1, by omega, s0, ?_, ?_, ?_⟩ <;> rw [show r - 1 + 1 = r by omega]
        omega
theorem At.at_point {n : Nat} {d : Dat} (T : Trk n d) {k : Nat} (hk : k < n) {num den : Int} (h : At n d (d.ii k 0) num den) : num = d.ii k 1 ∧ den = 1 := by
  rcases h with ⟨j, hj, e, h1, h2⟩ | ⟨r, hr, h1, h2, _⟩
  · have : j = k := by
      rcases Nat.lt_trichotomy j k with h | h | h
      · have := T.lt h hk; omega
      · exact h
      · have := T.lt h hj; omega
    subst this; exact ⟨h1, h2⟩
  · exfalso
    by_cases h : k ≤ r
    · have := T.le h (by omega); omega
    · have := T.le (show r + 1 ≤ k by omega) hk; omega
end Go.Proofs.YtchhhoamnagbfaaGreatDoor
namespace Go.Proofs.YtchhhoamnagbfaaGreatDoor
open Go Go.Sy
theorem n5_t : n5 = true := by kernel_rfl
theorem m5_t : m5 = true := by kernel_rfl
end Go.Proofs.YtchhhoamnagbfaaGreatDoor
namespace Go.Proofs.YtchhhoamnagbfaaGreatDoor
open Go Go.Sy
set_option linter.unusedVariables false
set_option linter.unusedSimpArgs false
set_option maxRecDepth 100000
theorem app_nil0 (e d : Dat) : e.app 0 d = d := by
  have h : ∀ q : Nat, Nat.blt q 0 = false := fun q => rfl
  cases d
  simp only [Dat.app, h, cond_false, Nat.sub_zero]
theorem ediv_alike {a b a' b' : Int} (hb : 0 < b) (hb' : 0 < b') (h : a * b' = a' * b) : a / b = a' / b' := by
  have e1 : a / b = (a * b') / (b * b') := (Int.mul_ediv_mul_of_pos_left a b hb').symm
  have e2 : a' / b' = (a' * b) / (b' * b) := (Int.mul_ediv_mul_of_pos_left a' b' hb).symm
  rw [e1, e2, h, Int.mul_comm b b']
def RAt (n : Nat) (d : Dat) (x num den : Int) : Prop := ∃ r, 1 ≤ r ∧ r < n ∧ d.ii (r - 1) 0 ≤ x ∧ x ≤ d.ii r 0 ∧ num = d.ii (r - 1) 1 * (d.ii r 0 - d.ii (r - 1) 0) + (d.ii r 1 - d.ii (r - 1) 1) * (x - d.ii (r - 1) 0) ∧ den = d.ii r 0 - d.ii (r - 1) 0
theorem ref_run {n : Nat} {d : Dat} (T : Trk n d) {x : Int} (hx : x ≤ d.ii (n - 1) 0) : ∀ (k i f : Nat), i + k = n → k < f → 1 ≤ i → 0 < k → d.ii (i - 1) 0 ≤ x → ∃ num den, l40_0 n d x f (i : Int) = some (true, (num, den), default) ∧ RAt n d x num den
  | 0, i, f, _, _, _, h, _ => absurd h (Nat.lt_irrefl _)
  | k + 1, i, f, hi, hf, h1, _, h0 => by
    obtain ⟨f, rfl⟩ : ∃ f', f = f' + 1 := ⟨f - 1, by omega⟩
    have few := T.few
    have hlt : i < n := by omega
    have t1 : IntKind.i64.wrap ((i : Int) - 1) = (i : Int) - 1 := wr (by omega) (by omega)
    have t2 : ((i : Int) - 1).toNat = i - 1 := by omega
    have z1 : decide (0 ≤ (i : Int) - 1 ∧ (i : Int) - 1 < (n : Int)) = true := decide_eq_true ⟨by omega, by omega⟩
    by_cases hh : x ≤ d.ii i 0
    · have a := T.dep (i - 1) (by omega); have b := T.dep i hlt
      have q1 := T.sec (i - 1) (by omega); have q2 := T.sec i hlt
      have up := T.lt (show i - 1 < i by omega) hlt
      have w1 : IntKind.i64.wrap (d.ii i 0 - d.ii (i - 1) 0) = d.ii i 0 - d.ii (i - 1) 0 := wr (by omega) (by omega)
      have w2 : IntKind.i64.wrap (d.ii i 1 - d.ii (i - 1) 1) = d.ii i 1 - d.ii (i - 1) 1 := wr (by omega) (by omega)
      have w3 : IntKind.i64.wrap (x - d.ii (i - 1) 0) = x - d.ii (i - 1) 0 := wr (by omega) (by omega)
      have p1 := mulb a.1 a.2 (show 0 ≤ d.ii i 0 - d.ii (i - 1) 0 by omega) (show d.ii i 0 - d.ii (i - 1) 0 ≤ 1000001 by omega)
      have p2 := mulb b.1 b.2 (show 0 ≤ x - d.ii (i - 1) 0 by omega) (show x - d.ii (i - 1) 0 ≤ 1000001 by omega)
      have p3 := mulb a.1 a.2 (show 0 ≤ x - d.ii (i - 1) 0 by omega) (show x - d.ii (i - 1) 0 ≤ 1000001 by omega)
      have e : (d.ii i 1 - d.ii (i - 1) 1) * (x - d.ii (i - 1) 0) = d.ii i 1 * (x - d.ii (i - 1) 0) - d.ii (i - 1) 1 * (x - d.ii (i - 1) 0) := Int.sub_mul _ _ _
      refine ⟨_, _, ?_, i, h1, hlt, h0, hh, rfl, rfl⟩
      simp only [l40_0, cdl hlt, cdd hlt, t1, t2, z1, w1, w2, w3, Int.toNat_natCast, decide_eq_true hh, cond_true]
      rw [wr (n := d.ii (i - 1) 1 * (d.ii i 0 - d.ii (i - 1) 0)) (by omega) (by omega), wr (n := (d.ii i 1 - d.ii (i - 1) 1) * (x - d.ii (i - 1) 0)) (by omega) (by omega), wr (by omega) (by omega)]
    · have hk : 0 < k := by
        apply Decidable.byContradiction
        intro hk
        have : i = n - 1 := by omega
        subst this
        exact hh hx
      obtain ⟨num, den, g1, g2⟩ := ref_run T hx k (i + 1) f (by omega) (by omega) (by omega) hk (by rw [Nat.add_sub_cancel]; omega)
      refine ⟨num, den, ?_, g2⟩
      simp only [l40_0, cdl hlt, cdd hlt, Int.toNat_natCast, decide_eq_false hh, wrS hlt (by omega), cond_true, cond_false]
      exact g1
theorem ref_at {n : Nat} {d : Dat} (T : Trk n d) {x : Int} (h0 : d.ii 0 0 ≤ x) (hx : x ≤ d.ii (n - 1) 0) : n40 n d x = true ∧ RAt n d x (m40 n d x).1 (m40 n d x).2 := by
  have two := T.two; have few := T.few
  have h := fun F (hF : n < F) => ref_run T hx (n - 1) 1 F (by omega) (by omega) (by decide) (by omega) h0
  obtain ⟨num, den, o, g⟩ : ∃ num den, o40_0 n d x 1 = some (true, (num, den), default) ∧ RAt n d x num den := by
    unfold o40_0
    generalize x.toNat = y1
    exact h _ (by omega)
  exact ⟨by simp only [n40, o]; rfl, by simp only [m40, o, Option.getD_some, cond_true]; exact g⟩
theorem at_ref {n : Nat} {d : Dat} (T : Trk n d) {x num den num' den' : Int} (h : At n d x num den) (h' : RAt n d x num' den') : num * den' = num' * den ∧ (1 ≤ den' ∧ den' ≤ 1000001) := by
  obtain ⟨r, r1, rn, s1, s2, rfl, rfl⟩ := h'
  have up := T.lt (show r - 1 < r by omega) rn
  have q1 := T.sec (r - 1) (by omega); have q2 := T.sec r rn
  refine ⟨?_, by omega⟩
  rcases h with ⟨k, hk, rfl, rfl, rfl⟩ | ⟨q, hq, k1, k2, rfl, rfl⟩
  · have hkr : k = r - 1 ∨ k = r := by
      rcases Nat.lt_trichotomy k (r - 1) with h | h | h
      · have := T.lt h (by omega); omega
      · exact .inl h
      · by_cases h2 : k ≤ r
        · exact .inr (by omega)
        · have := T.lt (show r < k by omega) hk; omega
    rcases hkr with rfl | rfl
    · rw [Int.sub_self, Int.mul_zero, Int.add_zero, Int.mul_one]
    · rw [Int.mul_one, Int.sub_mul]; omega
  · have hqr : q = r - 1 := by
      rcases Nat.lt_trichotomy q (r - 1) with h | h | h
      · have := T.le (show q + 1 ≤ r - 1 by omega) (by omega); omega
      · exact h
      · have := T.le (show r ≤ q by omega) (by omega); omega
    subst hqr
    rw [show r - 1 + 1 = r by omega]
    congr 1
    rw [Int.sub_mul, Int.mul_sub, Int.mul_sub, Int.mul_sub, Int.mul_sub]
    omega
theorem floor_eq {a b : Int} (hb : 0 < b) (hb2 : b ≤ 1000001) (h0 : -30000030000 ≤ a) (h1 : a ≤ 30000030000) : m61 a b = a / b := by
  by_cases ha : 0 ≤ a
  · have q0 := Int.ediv_nonneg ha (show 0 ≤ b by omega)
    have q1 := Int.ediv_le_self b ha
    have hm : ¬ a.tmod b < 0 := by have := Int.tmod_nonneg b ha; omega
    simp only [m61, decide_eq_false hm, cond_false, Int.tdiv_eq_ediv_of_nonneg ha]
    exact wr (by omega) (by omega)
  · obtain ⟨c, rfl⟩ : ∃ c, a = -c := ⟨-a, by omega⟩
    have hc : 0 ≤ c := by omega
    have q0 := Int.ediv_nonneg hc (show 0 ≤ b by omega)
    have q1 := Int.ediv_le_self b hc
    have e := Int.mul_ediv_add_emod c b
    have r0 := Int.emod_nonneg c (show b ≠ 0 by omega)
    have r1 := Int.emod_lt_of_pos c hb
    simp only [m61, Int.neg_tdiv, Int.neg_tmod, Int.tdiv_eq_ediv_of_nonneg hc, Int.tmod_eq_emod_of_nonneg hc]
    by_cases hr : c % b = 0
    · rw [hr] at e ⊢
      simp only [Int.neg_zero, Int.lt_irrefl, decide_false, cond_false]
      rw [wr (by omega) (by omega)]
      refine (((Int.ediv_emod_unique (r := 0) hb).2 ⟨?_, by omega, hb⟩).1).symm
      rw [Int.mul_neg]; omega
    · simp only [decide_eq_true (show -(c % b) < 0 by omega), cond_true]
      rw [wr (n := -(c / b)) (by omega) (by omega), wr (by omega) (by omega)]
      refine (((Int.ediv_emod_unique (r := b - c % b) hb).2 ⟨?_, by omega, by omega⟩).1).symm
      rw [Int.mul_sub, Int.mul_neg]; omega
theorem ceil_eq {X W : Int} (hW : 0 < W) : (X + W - 1) / W = -((-X) / W) := by
  have e := Int.mul_ediv_add_emod (-X) W
  have r0 := Int.emod_nonneg (-X) (show W ≠ 0 by omega)
  have r1 := Int.emod_lt_of_pos (-X) hW
  refine ((Int.ediv_emod_unique (r := W - 1 - (-X) % W) hW).2 ⟨?_, by omega, by omega⟩).1
  rw [Int.mul_neg]; omega
theorem round_alike {X W X' W' : Int} (hX : 0 ≤ X ∧ X ≤ 30000030000) (hW : 1 ≤ W ∧ W ≤ 1000001) (hX' : 0 ≤ X' ∧ X' ≤ 30000030000) (hW' : 1 ≤ W' ∧ W' ≤ 1000001) (h : X * W' = X' * W) : m32 X W = m41 X' W' := by
  have q0 := Int.ediv_nonneg hX.1 (show 0 ≤ W by omega)
  have q1 := Int.ediv_le_self W hX.1
  have q2 := Int.ediv_nonneg (show 0 ≤ X + W - 1 by omega) (show 0 ≤ W by omega)
  have q3 := Int.ediv_le_self W (show 0 ≤ X + W - 1 by omega)
  have e54 : m32 X W = (X / W, (X + W - 1) / W) := by
    simp only [m32]
    rw [wr (n := X + W) (by omega) (by omega), wr (n := X + W - 1) (by omega) (by omega), Int.tdiv_eq_ediv_of_nonneg hX.1, Int.tdiv_eq_ediv_of_nonneg (by omega), wr (n := X / W) (by omega) (by omega), wr (n := (X + W - 1) / W) (by omega) (by omega)]
  have c := ceil_eq (X := X) (show 0 < W by omega)
  have a1 := ediv_alike (show 0 < W by omega) (show 0 < W' by omega) h
  have a2 := ediv_alike (a := -X) (a' := -X') (show 0 < W by omega) (show 0 < W' by omega) (by rw [Int.neg_mul, Int.neg_mul, h])
  rw [e54]
  simp only [m41, m62]
  rw [wr (n := 0 - X') (by omega) (by omega), show (0 : Int) - X' = -X' from Int.zero_sub X', floor_eq (by omega) (by omega) (by omega) (by omega), floor_eq (by omega) (by omega) (by omega) (by omega), ← a1, ← a2, Int.zero_sub, ← c, wr (by omega) (by omega)]
theorem RAt.bnd {n : Nat} {d : Dat} (T : Trk n d) {x num den : Int} (h : RAt n d x num den) : (1 ≤ den ∧ den ≤ 1000001) ∧ 0 ≤ num ∧ num ≤ 30000030000 := by
  obtain ⟨r, r1, rn, s1, s2, rfl, rfl⟩ := h
  have up := T.lt (show r - 1 < r by omega) rn
  have q1 := T.sec (r - 1) (by omega); have q2 := T.sec r rn
  have a := T.dep (r - 1) (by omega); have b := T.dep r rn
  have p1 := mulb a.1 a.2 (show 0 ≤ d.ii r 0 - x by omega) (Int.le_refl _)
  have p2 := mulb b.1 b.2 (show 0 ≤ x - d.ii (r - 1) 0 by omega) (Int.le_refl _)
  have e : d.ii (r - 1) 1 * (d.ii r 0 - d.ii (r - 1) 0) + (d.ii r 1 - d.ii (r - 1) 1) * (x - d.ii (r - 1) 0) = d.ii (r - 1) 1 * (d.ii r 0 - x) + d.ii r 1 * (x - d.ii (r - 1) 0) := by
    rw [Int.sub_mul, Int.mul_sub, Int.mul_sub, Int.mul_sub, Int.mul_sub]; omega
  rw [e]
  omega
end Go.Proofs.YtchhhoamnagbfaaGreatDoor
namespace Go.Proofs.YtchhhoamnagbfaaGreatDoor
open Go Go.Sy
set_option linter.unusedVariables false
set_option linter.unusedSimpArgs false
set_option maxRecDepth 100000
attribute [local simp] brk
noncomputable def badC (s : ByteArray) (i : Nat) : Option (Bool × Bool × Unit) :=
  cond (bif (bif (bif (bif decide (97 ≤ byteAt s i) then decide (byteAt s i ≤ 122) else false) then true else (bif decide (65 ≤ byteAt s i) then decide (byteAt s i ≤ 90) else false)) then false else true) then (bif decide (i = 0) then true else (bif (bif decide (byteAt s i = 45) then false else true) then (bif decide (byteAt s i < 48) then true else decide (57 < byteAt s i)) else false)) else false) (some (true, false, default)) none
theorem l38_all (s : ByteArray) (hs : s.size ≤ 9223372036854775807) : o38_0 s 0 = some (first (badC s) (false, default, ()) s.size 0) :=
  loop_first (l := l38_0 s) hs (fun f i hi => by
    have e : decide ((i : Int) = 0) = decide (i = 0) := by by_cases h : i = 0 <;> simp [h]
    simp only [l38_0, cdl hi, cdd hi, cond_true, Int.toNat_natCast, e, badC]
    generalize (bif bif bif bif decide (97 ≤ byteAt s i) then decide (byteAt s i ≤ 122) else false then true else bif decide (65 ≤ byteAt s i) then decide (byteAt s i ≤ 90) else false then false else true then bif decide (i = 0) then true else bif bif decide (byteAt s i = 45) then false else true then bif decide (byteAt s i < 48) then true else decide (57 < byteAt s i) else false else false) = c
    cases c <;> rfl) (fun f => by simp only [l38_0, cdn]; rfl) s.size 0 _ (by omega) (by omega)
theorem l75_all (s : ByteArray) (hs : s.size ≤ 9223372036854775807) : o75_0 s (s.size : Int) 0 = some (first (badC s) (false, default, ()) s.size 0) :=
  loop_first (l := l75_0 s (s.size : Int)) hs (fun f i hi => by
    have e : decide ((i : Int) = 0) = decide (i = 0) := by by_cases h : i = 0 <;> simp [h]
    simp only [l75_0, cdl hi, cdd hi, cond_true, Int.toNat_natCast, e, badC, Bool.cond_self]
    generalize decide (97 ≤ byteAt s i) = c1
    generalize decide (byteAt s i ≤ 122) = c2
    generalize decide (65 ≤ byteAt s i) = c3
    generalize decide (byteAt s i ≤ 90) = c4
    generalize decide (i = 0) = c5
    generalize decide (byteAt s i = 45) = c6
    generalize decide (byteAt s i < 48) = c7
    generalize decide (57 < byteAt s i) = c8
    cases c1 <;> cases c2 <;> cases c3 <;> cases c4 <;> cases c5 <;> cases c6 <;> cases c7 <;> cases c8 <;> rfl) (fun f => by simp only [l75_0, cdn]; rfl) s.size 0 _ (by omega) (by omega)
theorem names (s : ByteArray) (hs : s.size ≤ 9223372036854775807) : n75 s = true ∧ n38 s = true ∧ m75 s = m38 s := by
  simp only [n75, n38, m75, m38, l75_all s hs, l38_all s hs, Option.getD_some]
  have hb : (first (badC s) (false, default, ()) s.size 0).1 = true → (first (badC s) (false, default, ()) s.size 0).2.1 = false := by
    rcases first_cases (g := badC s) (e := (false, (default : Bool), ())) s.size 0 with ⟨j, b, _, _, hg, _, hb⟩ | ⟨_, hb⟩
    · intro _
      have : first (badC s) (false, default, ()) s.size 0 = b := hb
      rw [this]
      unfold badC at hg
      generalize (bif bif bif bif decide (97 ≤ byteAt s j) then decide (byteAt s j ≤ 122) else false then true else bif decide (65 ≤ byteAt s j) then decide (byteAt s j ≤ 90) else false then false else true then bif decide (j = 0) then true else bif bif decide (byteAt s j = 45) then false else true then bif decide (byteAt s j < 48) then true else decide (57 < byteAt s j) else false else false) = c at hg
      cases c <;> simp at hg
      rw [← hg]
    · intro h
      have : first (badC s) (false, default, ()) s.size 0 = (false, default, ()) := hb
      rw [this] at h
      cases h
  have e0 : decide (s = { data := #[] }) = decide ((s.size : Int) < 1) := by
    apply decide_eq_decide.2
    constructor
    · intro h; subst h; decide
    · intro h
      have : s.size = 0 := by omega
      obtain ⟨d⟩ := s
      have : d.size = 0 := this
      rw [Array.size_eq_zero_iff] at this
      rw [this]
  rw [e0]
  generalize first (badC s) (false, default, ()) s.size 0 = r at *
  obtain ⟨r1, r2, r3⟩ := r
  simp only at hb ⊢
  refine ⟨rfl, ?_, ?_⟩
  · cases decide ((s.size : Int) < 1) <;> cases decide (12 < (s.size : Int)) <;> rfl
  · have e1 : decide ((s.size : Int) ≤ 12) = !decide (12 < (s.size : Int)) := by
      by_cases h : 12 < (s.size : Int)
      · have : ¬ (s.size : Int) ≤ 12 := by omega
        simp [h, this]
      · have : (s.size : Int) ≤ 12 := by omega
        simp [h, this]
    rw [e1]
    cases r1
    · cases decide ((s.size : Int) < 1) <;> cases decide (12 < (s.size : Int)) <;> rfl
    · have := hb rfl
      subst this
      cases decide ((s.size : Int) < 1) <;> cases decide (12 < (s.size : Int)) <;> rfl
theorem gas_ok (a b : Int) : m76 a b = m39 a b ∧ n76 a b = true := by
  have h : ∀ x y : Int, o88_0 2 (datS [SV.int IntKind.i64 x, SV.int IntKind.i64 y] 1) (↑(2 : Nat) : Int) 0 = cond (bif decide (x = 0) then false else true) (some (true, x, default)) (cond (bif decide (y = 0) then false else true) (some (true, y, default)) (some (false, default, ()))) := fun x y => by kernel_rfl
  have e : ∀ x, m89 x 0 1000 = cond (m12 x 0 1000) 0 2 := fun x => by
    have : m98 x 0 1000 = m12 x 0 1000 := rfl
    simp only [m89, this]; cases m12 x 0 1000 <;> rfl
  constructor
  · simp only [m76, m88, h, m39, e]
    cases m12 a 0 1000 <;> cases m12 b 0 1000 <;> simp
  · simp only [n76, n88, h, e]
    cases m12 a 0 1000 <;> cases m12 b 0 1000 <;> simp
noncomputable def badGas (g : Dat) (i : Nat) : Option (Bool × (Int × Int) × Unit) := cond (bif decide (m39 (g.ii i 0) (g.ii i 1) = 0) then false else true) (some (true, (0, m39 (g.ii i 0) (g.ii i 1)), default)) none
theorem l63g_all {ng : Nat} (h : ng ≤ 9223372036854775807) (a : ByteArray) (b : Int) (g : Dat) (L : Nat) (e : Dat) : o63_1 ng g (ng : Int) a b g L e 0 = some (first (badGas g) (false, default, ()) ng 0) :=
  loop_first (l := l63_1 ng g (ng : Int) a b g L e) h (fun f i hi => by
    simp only [l63_1, cdl hi, cdd hi, cond_true, Int.toNat_natCast, badGas, (gas_ok _ _).1, (gas_ok _ _).2]
    cases decide (m39 (g.ii i 0) (g.ii i 1) = 0) <;> rfl) (fun f => by simp only [l63_1, cdn]; rfl) ng 0 _ (by omega) (by omega)
theorem l11g_all {ng : Nat} (h : ng ≤ 9223372036854775807) (a : ByteArray) (b : Int) (g : Dat) (L : Nat) (e : Dat) : o11_0 a b ng g L e 0 = some (first (badGas g) (false, default, ()) ng 0) :=
  loop_first (l := l11_0 a b ng g L e) h (fun f i hi => by
    simp only [l11_0, cdl hi, cdd hi, cond_true, Int.toNat_natCast, badGas]
    cases decide (m39 (g.ii i 0) (g.ii i 1) = 0) <;> rfl) (fun f => by simp only [l11_0, cdn]; rfl) ng 0 _ (by omega) (by omega)
theorem badGas_none {g : Dat} {i : Nat} : badGas g i = none ↔ m39 (g.ii i 0) (g.ii i 1) = 0 := by
  simp only [badGas]
  by_cases h : m39 (g.ii i 0) (g.ii i 1) = 0 <;> simp [h]
def sm (e : Dat) : Nat → Int
  | 0 => 0
  | i + 1 => sm e i + e.ii i 0
def dp (e : Dat) : Nat → Int
  | 0 => 0
  | i + 1 => e.ii i 1
def LegOk (ng : Nat) (e : Dat) (j : Nat) : Prop := (1 ≤ e.ii j 0 ∧ e.ii j 0 ≤ 1000000) ∧ (0 ≤ e.ii j 1 ∧ e.ii j 1 ≤ 30000) ∧ (0 ≤ e.ii j 2 ∧ e.ii j 2 < (ng : Int))
theorem no_or {x y : Bool} : (bif (bif x then false else true) then true else (bif y then false else true)) = false ↔ x = true ∧ y = true := by cases x <;> cases y <;> simp
theorem no_not {x : Bool} : (bif x then false else true) = false ↔ x = true := by cases x <;> simp
theorem leg_run {ng : Nat} (hng : ng ≤ 9223372036854775807) {L : Nat} (hL : L ≤ 9223372036854775807) (a : ByteArray) (b : Int) (g e : Dat) : ∀ (k i f f' : Nat) (s : Int), i + k = L → k < f → k < f' →
    ∃ r : Bool × (Int × Int) × Unit, l63_3 L e (L : Int) a b ng g e f s (i : Int) = some r ∧ l11_2 a b ng g L e f' s (i : Int) = some r ∧ (r.1 = true → r.2.1.2 ≠ 0) ∧
      (s = sm e i → 0 ≤ s ∧ s ≤ 1000000 → (r.1 = false ↔ ∀ j, i ≤ j → j < L → LegOk ng e j ∧ sm e (j + 1) ≤ 1000000))
  | 0, i, f, f', s, hi, hf, hf' => by
    obtain ⟨f, rfl⟩ : ∃ f0, f = f0 + 1 := ⟨f - 1, by omega⟩
    obtain ⟨f', rfl⟩ : ∃ f0, f' = f0 + 1 := ⟨f' - 1, by omega⟩
    obtain rfl : i = L := by omega
    refine ⟨(false, default, ()), by simp only [l63_3, cdn]; rfl, by simp only [l11_2, cdn]; rfl, fun h => (by cases h), fun _ _ => ⟨fun _ j h1 h2 => by omega, fun _ => rfl⟩⟩
  | k + 1, i, f, f', s, hi, hf, hf' => by
    obtain ⟨f, rfl⟩ : ∃ f0, f = f0 + 1 := ⟨f - 1, by omega⟩
    obtain ⟨f', rfl⟩ : ∃ f0, f' = f0 + 1 := ⟨f' - 1, by omega⟩
    have hlt : i < L := by omega
    have w : IntKind.i64.wrap ((ng : Int) - 1) = (ng : Int) - 1 := wr (by omega) (by omega)
    have h16 : ∀ x y z, m12 x y z = m51 x y z := fun _ _ _ => rfl
    cases h1 : (bif (bif m51 (e.ii i 0) 1 1000000 then false else true) then true else (bif m51 (e.ii i 1) 0 30000 then false else true)) with
    | true =>
      refine ⟨(true, ((i : Int), 2), default), by simp only [l63_3, cdl hlt, cdd hlt, Int.toNat_natCast, h1, cond_true], by simp only [l11_2, cdl hlt, cdd hlt, Int.toNat_natCast, h16, h1, cond_true], fun _ => (by simp), fun _ _ => ⟨fun h => (by cases h), fun h => ?_⟩⟩
      obtain ⟨⟨A, B, _⟩, _⟩ := h i (Nat.le_refl _) hlt
      rw [no_or.2 ⟨m51_iff.2 A, m51_iff.2 B⟩] at h1; cases h1
    | false =>
      obtain ⟨p1, p2⟩ := no_or.1 h1
      have p1 := m51_iff.1 p1; have p2 := m51_iff.1 p2
      cases h2 : (bif m51 (e.ii i 2) 0 ((ng : Int) - 1) then false else true) with
      | true =>
        refine ⟨(true, ((i : Int), 6), default), by simp only [l63_3, cdl hlt, cdd hlt, Int.toNat_natCast, h1, w, h2, cond_true, cond_false], by simp only [l11_2, cdl hlt, cdd hlt, Int.toNat_natCast, h16, h1, w, h2, cond_true, cond_false], fun _ => (by simp), fun _ _ => ⟨fun h => (by cases h), fun h => ?_⟩⟩
        obtain ⟨⟨_, _, A⟩, _⟩ := h i (Nat.le_refl _) hlt
        rw [no_not.2 (m51_iff.2 ⟨A.1, by omega⟩)] at h2; cases h2
      | false =>
        have p3 := m51_iff.1 (no_not.1 h2)
        by_cases h3 : 1000000 < IntKind.i64.wrap (s + e.ii i 0)
        · refine ⟨(true, ((i : Int), 8), default), by simp only [l63_3, cdl hlt, cdd hlt, Int.toNat_natCast, h1, w, h2, decide_eq_true h3, cond_true, cond_false], by simp only [l11_2, cdl hlt, cdd hlt, Int.toNat_natCast, h16, h1, w, h2, decide_eq_true h3, cond_true, cond_false], fun _ => (by simp), fun hs hb => ⟨fun h => (by cases h), fun h => ?_⟩⟩
          have := (h i (Nat.le_refl _) hlt).2
          rw [wr (by omega) (by omega), hs] at h3
          simp only [sm] at this; omega
        · obtain ⟨r, g1, g2, g3, g4⟩ := leg_run hng hL a b g e k (i + 1) f f' (IntKind.i64.wrap (s + e.ii i 0)) (by omega) (by omega) (by omega)
          refine ⟨r, by simp only [l63_3, cdl hlt, cdd hlt, Int.toNat_natCast, h1, w, h2, decide_eq_false h3, cond_true, cond_false, wrS hlt hL]; exact g1, by simp only [l11_2, cdl hlt, cdd hlt, Int.toNat_natCast, h16, h1, w, h2, decide_eq_false h3, cond_true, cond_false, wrS hlt hL]; exact g2, g3, fun hs hb => ?_⟩
          have ws : IntKind.i64.wrap (s + e.ii i 0) = s + e.ii i 0 := wr (by omega) (by omega)
          rw [ws] at h3 g4
          refine (g4 (by rw [hs]; rfl) ⟨by omega, by omega⟩).trans ⟨fun h j a c => ?_, fun h j a c => h j (by omega) c⟩
          by_cases hj : j = i
          · subst hj
            exact ⟨⟨p1, p2, p3.1, by omega⟩, by simp only [sm]; omega⟩
          · exact h j (by omega) c
structure Pln (a : ByteArray) (b : Int) (ng : Nat) (g : Dat) (L : Nat) (e : Dat) : Prop where
  name : m38 a = true
  air : 400 ≤ b ∧ b ≤ 1100
  some : 1 ≤ ng
  few : ng ≤ 8
  gas : ∀ i, i < ng → m39 (g.ii i 0) (g.ii i 1) = 0
  legs : L ≤ 60
  leg : ∀ j, j < L → LegOk ng e j
  sum : ∀ j, j ≤ L → sm e j ≤ 1000000
theorem plan_ok (a : ByteArray) (b : Int) (ng : Nat) (g : Dat) (L : Nat) (e : Dat) (ha : a.size ≤ 9223372036854775807) (hg : ng ≤ 9223372036854775807) (hL : L ≤ 9223372036854775807) :
    n63 a b ng g L e = true ∧ n11 a b ng g L e = true ∧ m63 a b ng g L e = m11 a b ng g L e ∧ ((m11 a b ng g L e).2 = 0 → Pln a b ng g L e) ∧ (Pln a b ng g L e → m11 a b ng g L e = (0, 0)) := by
  obtain ⟨a1, a2, a3⟩ := names a ha
  have h16 : ∀ x y z, m12 x y z = m51 x y z := fun _ _ _ => rfl
  obtain ⟨r, r1, r2, r3, r4⟩ : ∃ r : Bool × (Int × Int) × Unit, o63_3 L e (L : Int) a b ng g e 0 0 = some r ∧ o11_2 a b ng g L e 0 0 = some r ∧ (r.1 = true → r.2.1.2 ≠ 0) ∧ (r.1 = false ↔ ∀ j, j < L → LegOk ng e j ∧ sm e (j + 1) ≤ 1000000) := by
    obtain ⟨r, g1, g2, g3, g4⟩ := leg_run hg hL a b g e L 0 (Int.toNat 0 + L + (L : Int).toNat + Int.toNat 0 + a.size + b.toNat + ng + 8) (Int.toNat 0 + Int.toNat 0 + a.size + b.toNat + ng + L + 8) 0 (by omega) (by omega) (by omega)
    exact ⟨r, g1, g2, g3, (g4 rfl ⟨by decide, by decide⟩).trans ⟨fun h j c => h j (Nat.zero_le _) c, fun h j _ c => h j c⟩⟩
  simp only [n63, n11, m63, m11, a1, a2, a3, h16, l63g_all hg, l11g_all hg, r1, r2, Option.getD_some, Option.isSome_some, Bool.true_and, Bool.and_true]
  cases h1 : m38 a with
  | false => exact ⟨by simp only [cond_true, cond_false], by simp only [cond_true, cond_false], by trivial, fun h => absurd h (by simp only [cond_true, cond_false]; decide), fun P => by rw [P.name] at h1; cases h1⟩
  | true =>
  simp only [cond_true, cond_false]
  cases h2 : m51 b 400 1100 with
  | false => exact ⟨by simp only [cond_true, cond_false], by simp only [cond_true, cond_false], by trivial, fun h => absurd h (by simp only [cond_true, cond_false]; decide), fun P => by rw [m51_iff.2 P.air] at h2; cases h2⟩
  | true =>
  simp only [cond_true, cond_false]
  by_cases h3 : (ng : Int) = 0
  · simp only [decide_eq_true h3, cond_true]
    exact ⟨trivial, trivial, by trivial, fun h => absurd h (by decide), fun P => absurd P.some (by omega)⟩
  simp only [decide_eq_false h3, cond_false]
  by_cases h4 : 8 < (ng : Int)
  · simp only [decide_eq_true h4, cond_true]
    exact ⟨trivial, trivial, by trivial, fun h => absurd h (by decide), fun P => absurd P.few (by omega)⟩
  simp only [decide_eq_false h4, cond_false]
  have hc := first_cases (g := badGas g) (e := (false, default, ())) ng 0
  cases h5 : (first (badGas g) (false, default, ()) ng 0).1 with
  | true =>
    rcases hc with ⟨j, c, _, hj, hg', _, hc⟩ | ⟨_, hc⟩
    · simp only [cond_true]
      refine ⟨trivial, trivial, by trivial, fun h => ?_, fun P => ?_⟩
      · exfalso
        rw [hc] at h
        simp only [badGas] at hg'
        by_cases hz : m39 (g.ii j 0) (g.ii j 1) = 0
        · rw [decide_eq_true hz] at hg'; cases hg'
        · rw [decide_eq_false hz] at hg'; simp only [cond_true, cond_false, Option.some.injEq] at hg'
          rw [← hg'] at h; exact hz h
      · rw [badGas_none.2 (P.gas j (by omega))] at hg'; cases hg'
    · rw [hc] at h5; cases h5
  | false =>
  have hgas : ∀ i, i < ng → m39 (g.ii i 0) (g.ii i 1) = 0 := by
    rcases hc with ⟨j, c, _, hj, hg', _, hc⟩ | ⟨hn, _⟩
    · exfalso
      simp only [badGas] at hg'
      by_cases hz : m39 (g.ii j 0) (g.ii j 1) = 0
      · rw [decide_eq_true hz] at hg'; cases hg'
      · rw [decide_eq_false hz] at hg'; simp only [cond_true, cond_false, Option.some.injEq] at hg'
        rw [hc, ← hg'] at h5; cases h5
    · exact fun i hi => badGas_none.1 (hn i (Nat.zero_le _) (by omega))
  simp only [cond_false]
  by_cases h6 : (60 : Int) < (L : Int)
  · simp only [decide_eq_true h6, cond_true]
    exact ⟨trivial, trivial, by trivial, fun h => absurd h (by decide), fun P => absurd P.legs (by omega)⟩
  simp only [decide_eq_false h6, cond_false]
  refine ⟨trivial, trivial, by trivial, fun h => ?_, fun P => ?_⟩
  · cases h7 : r.1 with
    | true => rw [h7] at h; exact absurd h (r3 h7)
    | false =>
      have := r4.1 h7
      refine ⟨rfl.trans h1, m51_iff.1 h2, by omega, by omega, hgas, by omega, fun j hj => (this j hj).1, fun j hj => ?_⟩
      cases j with
      | zero => simp only [sm]; decide
      | succ j => exact (this j (by omega)).2
  · have h7 : r.1 = false := r4.2 fun j hj => ⟨P.leg j hj, P.sum (j + 1) (by omega)⟩
    rw [h7]; rfl
theorem one_plan (a : ByteArray) (b : Int) (ng : Nat) (g : Dat) (L : Nat) (e : Dat) (ha : a.size ≤ 9223372036854775807) (hg : ng ≤ 9223372036854775807) (hL : L ≤ 9223372036854775807) :
    n42 1 (datS [SV.str a, SV.int IntKind.i64 b, SV.ro [Kd.int IntKind.i64, Kd.int IntKind.i64] ng g, SV.ro [Kd.int IntKind.i64, Kd.int IntKind.i64, Kd.int IntKind.i64] L e] 4) = true ∧
    m42 1 (datS [SV.str a, SV.int IntKind.i64 b, SV.ro [Kd.int IntKind.i64, Kd.int IntKind.i64] ng g, SV.ro [Kd.int IntKind.i64, Kd.int IntKind.i64, Kd.int IntKind.i64] L e] 4) = (m11 a b ng g L e).2 := by
  have h : o42_0 1 (datS [SV.str a, SV.int IntKind.i64 b, SV.ro [Kd.int IntKind.i64, Kd.int IntKind.i64] ng g, SV.ro [Kd.int IntKind.i64, Kd.int IntKind.i64, Kd.int IntKind.i64] L e] 4) (↑(1 : Nat) : Int) 0 = cond (n63 a b ng g L e) (cond (bif decide ((m63 a b ng g L e).snd = 0) then false else true) (some (true, (m63 a b ng g L e).snd, default)) (some (false, default, ()))) none := by kernel_rfl
  obtain ⟨h1, h2, h3, _⟩ := plan_ok a b ng g L e ha hg hL
  rw [h1, h3] at h
  simp only [n42, m42, h, cond_true]
  by_cases hz : (m11 a b ng g L e).2 = 0
  · rw [decide_eq_true hz, hz]; exact ⟨rfl, rfl⟩
  · rw [decide_eq_false hz]; exact ⟨rfl, rfl⟩
theorem app_lt {d e : Dat} {n q c : Nat} (h : q < n) : (d.app n e).ii q c = d.ii q c := by
  simp only [Dat.app, blt_t h, cond_true]
theorem app_eq {d e : Dat} {n c : Nat} : (d.app n e).ii n c = e.ii 0 c := by
  have : Nat.blt n n = false := Bool.eq_false_iff.2 fun h => Nat.lt_irrefl _ (Nat.le_of_ble_eq_true h)
  simp only [Dat.app, this, cond_false, Nat.sub_self]
section
variable {a : ByteArray} {b : Int} {ng : Nat} {g : Dat} {L : Nat} {e : Dat}
theorem Pln.leg0 (P : Pln a b ng g L e) {j : Nat} (h : j < L) : 1 ≤ e.ii j 0 ∧ e.ii j 0 ≤ 1000000 := (P.leg j h).1
theorem Pln.nonneg (P : Pln a b ng g L e) : ∀ {j : Nat}, j ≤ L → 0 ≤ sm e j
  | 0, _ => Int.le_refl _
  | j + 1, h => by
    have := P.nonneg (j := j) (by omega); have := P.leg0 (show j < L by omega)
    simp only [sm]; omega
theorem Pln.dep (P : Pln a b ng g L e) {j : Nat} (h : j ≤ L) : 0 ≤ dp e j ∧ dp e j ≤ 30000 := by
  cases j with
  | zero => simp only [dp]; decide
  | succ j => exact (P.leg j (by omega)).2.1
def PtsOf (e : Dat) (n : Nat) (D : Dat) : Prop := ∀ q, q < n → D.ii q 0 = sm e q ∧ D.ii q 1 = dp e q
theorem ptsOf_one (e : Dat) : PtsOf e 1 (datS [SV.int IntKind.i64 0, SV.int IntKind.i64 0] 2) := fun q hq => by
  obtain rfl : q = 0 := by omega
  exact ⟨rfl, rfl⟩
theorem ptsOf_app {D : Dat} {i : Nat} (h : PtsOf e (i + 1) D) (x : Int) (hx : x = sm e (i + 1)) : PtsOf e (i + 1 + 1) (D.app (i + 1) (datS [SV.int IntKind.i64 x, SV.int IntKind.i64 (e.ii i 1)] 2)) := fun q hq => by
  by_cases hh : q < i + 1
  · rw [app_lt hh, app_lt hh]; exact h q hh
  · obtain rfl : q = i + 1 := by omega
    rw [app_eq, app_eq]
    exact ⟨hx, rfl⟩
theorem pts_run (P : Pln a b ng g L e) : ∀ (k i f : Nat) (D : Dat), i + k = L → k < f → PtsOf e (i + 1) D → ∃ D', l46_0 L e (L : Int) a b ng g e f (i + 1) (i : Int) D = some (L + 1, L + 1, D') ∧ PtsOf e (L + 1) D'
  | 0, i, f, D, hi, hf, hD => by
    obtain ⟨f, rfl⟩ : ∃ f0, f = f0 + 1 := ⟨f - 1, by omega⟩
    obtain rfl : i = L := by omega
    exact ⟨D, by simp only [l46_0, cdn]; rfl, hD⟩
  | k + 1, i, f, D, hi, hf, hD => by
    obtain ⟨f, rfl⟩ : ∃ f0, f = f0 + 1 := ⟨f - 1, by omega⟩
    have hlt : i < L := by omega
    have hL := P.legs
    have w : IntKind.i64.wrap (((i + 1 : Nat) : Int) - 1) = (i : Int) := by rw [wr (by omega) (by omega)]; omega
    have c1 : decide (0 ≤ (i : Int) ∧ (i : Int) < ((i + 1 : Nat) : Int)) = true := decide_eq_true ⟨by omega, by omega⟩
    have c2 : decide (i < i + 1) = true := decide_eq_true (by omega)
    have c3 : decide (i + 1 + 1 ≤ 1073741824) = true := decide_eq_true (by omega)
    have s0 := P.nonneg (show i ≤ L by omega); have s1 := P.sum (i + 1) (by omega); have l0 := P.leg0 hlt
    have h0 := (hD i (by omega)).1
    have ws : IntKind.i64.wrap (D.ii i 0 + e.ii i 0) = sm e (i + 1) := by
      rw [h0]; simp only [sm] at s1 ⊢; exact wr (by omega) (by omega)
    obtain ⟨D', g1, g2⟩ := pts_run P k (i + 1) f _ (by omega) (by omega) (ptsOf_app hD _ rfl)
    refine ⟨D', ?_, g2⟩
    simp only [l46_0, cdl hlt, cdd hlt, w, c1, c2, c3, Int.toNat_natCast, ws, cond_true, wrS hlt (by omega)]
    exact g1
theorem pts_run' (P : Pln a b ng g L e) : ∀ (k i f : Nat) (D : Dat), i + k = L → k < f → PtsOf e (i + 1) D → ∃ D', l16_0 a b ng g L e f (i + 1) (i : Int) D = some (L + 1, L + 1, D') ∧ PtsOf e (L + 1) D'
  | 0, i, f, D, hi, hf, hD => by
    obtain ⟨f, rfl⟩ : ∃ f0, f = f0 + 1 := ⟨f - 1, by omega⟩
    obtain rfl : i = L := by omega
    exact ⟨D, by simp only [l16_0, cdn]; rfl, hD⟩
  | k + 1, i, f, D, hi, hf, hD => by
    obtain ⟨f, rfl⟩ : ∃ f0, f = f0 + 1 := ⟨f - 1, by omega⟩
    have hlt : i < L := by omega
    have hL := P.legs
    have c1 : decide (0 ≤ (i : Int) ∧ (i : Int) < ((i + 1 : Nat) : Int)) = true := decide_eq_true ⟨by omega, by omega⟩
    have c2 : decide (i < i + 1) = true := decide_eq_true (by omega)
    have c3 : decide (i + 1 + 1 ≤ 1073741824) = true := decide_eq_true (by omega)
    have s0 := P.nonneg (show i ≤ L by omega); have s1 := P.sum (i + 1) (by omega); have l0 := P.leg0 hlt
    have h0 := (hD i (by omega)).1
    have ws : IntKind.i64.wrap (D.ii i 0 + e.ii i 0) = sm e (i + 1) := by
      rw [h0]; simp only [sm] at s1 ⊢; exact wr (by omega) (by omega)
    obtain ⟨D', g1, g2⟩ := pts_run' P k (i + 1) f _ (by omega) (by omega) (ptsOf_app hD _ rfl)
    refine ⟨D', ?_, g2⟩
    simp only [l16_0, cdl hlt, cdd hlt, c1, c2, c3, Int.toNat_natCast, ws, cond_true, wrS hlt (by omega)]
    exact g1
theorem track_ok (P : Pln a b ng g L e) : n46 a b ng g L e = true ∧ ∃ D, m46 a b ng g L e = (L + 1, D) ∧ PtsOf e (L + 1) D := by
  have hL := P.legs
  obtain ⟨D, g1, g2⟩ := pts_run P L 0 (1 + L + (L : Int).toNat + Int.toNat 0 + a.size + b.toNat + ng + 8) _ (by omega) (by omega) (ptsOf_one e)
  have h : o46_0 L e (L : Int) a b ng g e 1 0 (datS [SV.int IntKind.i64 0, SV.int IntKind.i64 0] 2) = some (L + 1, L + 1, D) := g1
  refine ⟨by simp only [n46, h, Option.getD_some, Option.isSome_some, Nat.zero_add, Nat.le_refl, decide_true]; rfl, D, by simp only [m46, h, Option.getD_some], g2⟩
theorem points_ok (P : Pln a b ng g L e) : n16 a b ng g L e = true ∧ ∃ D, m16 a b ng g L e = (L + 1, D) ∧ PtsOf e (L + 1) D := by
  have hL := P.legs
  obtain ⟨D, g1, g2⟩ := pts_run' P L 0 (1 + Int.toNat 0 + a.size + b.toNat + ng + L + 8) _ (by omega) (by omega) (ptsOf_one e)
  have h : o16_0 a b ng g L e 1 0 (datS [SV.int IntKind.i64 0, SV.int IntKind.i64 0] 2) = some (L + 1, L + 1, D) := g1
  refine ⟨by simp only [n16, h, Option.getD_some, Option.isSome_some, Nat.zero_add, Nat.le_refl, decide_true]; rfl, D, by simp only [m16, h, Option.getD_some], g2⟩
theorem end_ok (P : Pln a b ng g L e) {D : Dat} (hD : PtsOf e (L + 1) D) : n47 (L + 1) D = true ∧ m47 (L + 1) D = sm e L := by
  have hL := P.legs
  have w : IntKind.i64.wrap (((L + 1 : Nat) : Int) - 1) = (L : Int) := by rw [wr (by omega) (by omega)]; omega
  refine ⟨by simp only [n47, w, decide_eq_true (show 0 ≤ (L : Int) ∧ (L : Int) < ((L + 1 : Nat) : Int) by omega)]; rfl, ?_⟩
  simp only [m47, w, Int.toNat_natCast]
  exact (hD L (by omega)).1
theorem sec_run (P : Pln a b ng g L e) : ∀ (k i f : Nat), i + k = L → k < f → l13_0 a b ng g L e f (sm e i) (i : Int) = some (sm e L)
  | 0, i, f, hi, hf => by
    obtain ⟨f, rfl⟩ : ∃ f0, f = f0 + 1 := ⟨f - 1, by omega⟩
    obtain rfl : i = L := by omega
    simp only [l13_0, cdn]; rfl
  | k + 1, i, f, hi, hf => by
    obtain ⟨f, rfl⟩ : ∃ f0, f = f0 + 1 := ⟨f - 1, by omega⟩
    have hlt : i < L := by omega
    have hL := P.legs
    have s0 := P.nonneg (show i ≤ L by omega); have s1 := P.sum (i + 1) (by omega); have l0 := P.leg0 hlt
    have ws : IntKind.i64.wrap (sm e i + e.ii i 0) = sm e (i + 1) := by
      simp only [sm] at s1 ⊢; exact wr (by omega) (by omega)
    simp only [l13_0, cdl hlt, cdd hlt, Int.toNat_natCast, ws, cond_true, wrS hlt (by omega)]
    exact sec_run P k (i + 1) f (by omega) (by omega)
theorem seconds_ok (P : Pln a b ng g L e) : n13 a b ng g L e = true ∧ m13 a b ng g L e = sm e L := by
  have h : o13_0 a b ng g L e 0 0 = some (sm e L) := sec_run P L 0 (Int.toNat 0 + Int.toNat 0 + a.size + b.toNat + ng + L + 8) (by omega) (by omega)
  exact ⟨by simp only [n13, h]; rfl, by simp only [m13, h]; rfl⟩
end
end Go.Proofs.YtchhhoamnagbfaaGreatDoor
namespace Go.Proofs.YtchhhoamnagbfaaGreatDoor
open Go Go.Sy
set_option linter.unusedVariables false
set_option linter.unusedSimpArgs false
set_option maxRecDepth 100000
theorem round_ne {X W : Int} (hW : W ≠ 0) : n32 X W = true ∧ n41 X W = true := by
  simp only [n32, n41, n61, n62, decide_eq_false hW]; exact ⟨rfl, rfl⟩
section
variable {a : ByteArray} {b : Int} {ng : Nat} {g : Dat} {L : Nat} {e : Dat}
theorem Pln.small (P : Pln a b ng g L e) : a.size ≤ 12 := by
  have h := P.name
  simp only [m38] at h
  by_cases hs : 12 < (a.size : Int)
  · rw [decide_eq_true hs] at h
    revert h; cases decide ((a.size : Int) < 1) <;> intro h <;> cases h
  · omega
end
end Go.Proofs.YtchhhoamnagbfaaGreatDoor
namespace Go.Proofs.YtchhhoamnagbfaaGreatDoor
open Go Go.Sy
set_option linter.unusedVariables false
set_option linter.unusedSimpArgs false
set_option maxRecDepth 100000
theorem few_bnd {a : ByteArray} {b : Int} {ng : Nat} {g : Dat} {L : Nat} {e : Dat} (hs : m6 a b ng g L e = true) : a.size ≤ 20 ∧ ng ≤ 10 ∧ L ≤ 62 := by
  simp only [m6] at hs
  by_cases h1 : (a.size : Int) ≤ 20
  · by_cases h2 : (ng : Int) ≤ 10
    · by_cases h3 : (L : Int) ≤ 10
      · omega
      · by_cases h4 : (60 : Int) < (L : Int)
        · have : decide ((L : Int) ≤ 62) = true := by simpa [h1, h2, h3, h4] using hs
          have := of_decide_eq_true this; omega
        · simp [h1, h2, h3, h4] at hs
    · simp [h1, h2] at hs
  · simp [h1] at hs
theorem copies_ok {a : ByteArray} {b : Int} {ng : Nat} {g : Dat} {L : Nat} {e : Dat} (hg : ng ≤ 1073741824) (hL : L ≤ 1073741824) : n8 a b ng g L e = true ∧ m8 a b ng g L e = (a, b, ng, g, L, e) := by
  have n59t : n33 ng g = true := by simp only [n33, Nat.zero_add, decide_eq_true hg, Nat.le_refl, decide_true]; rfl
  have n36t : n34 L e = true := by simp only [n34, Nat.zero_add, decide_eq_true hL, Nat.le_refl, decide_true]; rfl
  exact ⟨by simp only [n8, n59t, n36t]; rfl, by simp only [m8, m33, m34, Nat.zero_add, app_nil0]⟩
theorem plans_same {a : ByteArray} {b : Int} {ng : Nat} {g g' : Dat} {L : Nat} {e e' : Dat} (hg : ng ≤ 9223372036854775807) (hL : L ≤ 9223372036854775807) (h : ∀ q, q < ng → g.ii q 0 = g'.ii q 0 ∧ g.ii q 1 = g'.ii q 1) (k : ∀ q, q < L → e.ii q 0 = e'.ii q 0 ∧ e.ii q 1 = e'.ii q 1 ∧ e.ii q 2 = e'.ii q 2) :
    n19 a b ng g L e a b ng g' L e' = true ∧ m19 a b ng g L e a b ng g' L e' = true := by
  have h0 : o19_0 a b ng g L e a b ng g' L e' 0 = some (first (fun _ => none) (false, default, ()) ng 0) := loop_first (n := ng) (l := l19_0 a b ng g L e a b ng g' L e') hg (fun f i hi => by
    have q := h i hi
    simp only [l19_0, cdl hi, cdd hi, cond_true, cond_false, Int.toNat_natCast, q.1, q.2, decide_true]; rfl) (fun f => by simp only [l19_0, cdn]; rfl) ng 0 _ (by omega) (by omega)
  have h2 : o19_2 a b ng g L e a b ng g' L e' 0 = some (first (fun _ => none) (false, default, ()) L 0) := loop_first (n := L) (l := l19_2 a b ng g L e a b ng g' L e') hL (fun f i hi => by
    have q := k i hi
    simp only [l19_2, cdl hi, cdd hi, cond_true, cond_false, Int.toNat_natCast, q.1, q.2.1, q.2.2, decide_true]; rfl) (fun f => by simp only [l19_2, cdn]; rfl) L 0 _ (by omega) (by omega)
  have hf : ∀ n, first (fun _ : Nat => (none : Option (Bool × Bool × Unit))) (false, default, ()) n 0 = (false, default, ()) := fun n => first_none fun _ _ _ => rfl
  rw [hf] at h0 h2
  simp only [n19, m19, h0, h2, decide_true, Option.getD_some, Option.isSome_some, cond_true, cond_false, Bool.and_self]
  exact ⟨trivial, trivial⟩
end Go.Proofs.YtchhhoamnagbfaaGreatDoor
namespace Go.Proofs.YtchhhoamnagbfaaGreatDoor
open Go Go.Sy
set_option linter.unusedVariables false
set_option linter.unusedSimpArgs false
set_option maxRecDepth 100000
attribute [local simp] brk
def gx (g e : Dat) (i : Nat) : Int := g.ii (e.ii i 2).toNat 0
def gy (g e : Dat) (i : Nat) : Int := g.ii (e.ii i 2).toNat 1
structure GI (ng : Nat) (g e : Dat) (i : Nat) (s : Nat × Dat) : Prop where
  le : s.1 ≤ i
  gin : ∀ q, q < s.1 → ∃ r, r < ng ∧ s.2.ii q 0 = g.ii r 0 ∧ s.2.ii q 1 = g.ii r 1
  dist : ∀ q' q, q' < q → q < s.1 → ¬ (s.2.ii q' 0 = s.2.ii q 0 ∧ s.2.ii q' 1 = s.2.ii q 1)
  has : ∀ r, r < i → ∃ q, q < s.1 ∧ s.2.ii q 0 = gx g e r ∧ s.2.ii q 1 = gy g e r
section
variable {ng : Nat} {g e : Dat} {L : Nat}
end
theorem pigeon : ∀ (n c : Nat) (f : Nat → Nat), (∀ q, q < c → f q < n) → (∀ q' q, q' < q → q < c → f q' ≠ f q) → c ≤ n
  | 0, c, f, h1, h2 => by
    apply Decidable.byContradiction
    intro h
    have := h1 0 (by omega)
    omega
  | n + 1, c, f, h1, h2 => by
    by_cases hz : ∃ p, p < c ∧ f p = n
    · obtain ⟨p, hp, hpn⟩ := hz
      have := pigeon n (c - 1) (fun q => if q < p then f q else f (q + 1)) (fun q hq => by
        by_cases hh : q < p
        · have a := h1 q (by omega); have b := h2 q p hh hp
          rw [if_pos hh]; omega
        · have a := h1 (q + 1) (by omega); have b := h2 p (q + 1) (by omega) (by omega)
          rw [if_neg hh]; omega) fun q' q h hq => by
        by_cases a : q' < p
        · by_cases b : q < p
          · simp only [if_pos a, if_pos b]; exact h2 q' q h (by omega)
          · simp only [if_pos a, if_neg b]; exact h2 q' (q + 1) (by omega) (by omega)
        · simp only [if_neg a, if_neg (show ¬ q < p by omega)]; exact h2 (q' + 1) (q + 1) (by omega) (by omega)
      omega
    · have := pigeon n c f (fun q hq => by
        have a := h1 q hq
        have : f q ≠ n := fun hh => hz ⟨q, hq, hh⟩
        omega) h2
      omega
theorem GI.few {ng : Nat} {g e : Dat} {i : Nat} {s : Nat × Dat} (I : GI ng g e i s) : s.1 ≤ ng := by
  have h : ∀ q, ∃ r, q < s.1 → (r < ng ∧ s.2.ii q 0 = g.ii r 0 ∧ s.2.ii q 1 = g.ii r 1) := fun q => by
    by_cases hq : q < s.1
    · obtain ⟨r, hr⟩ := I.gin q hq; exact ⟨r, fun _ => hr⟩
    · exact ⟨0, fun h => absurd h hq⟩
  obtain ⟨f, hf⟩ := Classical.axiomOfChoice h
  exact pigeon ng s.1 f (fun q hq => (hf q hq).1) fun q' q h hq hh => by
    have a := (hf q' (by omega)).2; have b := (hf q hq).2
    rw [hh] at a
    exact I.dist q' q h hq ⟨a.1.trans b.1.symm, a.2.trans b.2.symm⟩
theorem sm_congr {o o' : Dat} : ∀ {n : Nat}, (∀ q, q < n → o.ii q 0 = o'.ii q 0) → sm o n = sm o' n
  | 0, _ => rfl
  | n + 1, h => by simp only [sm]; rw [sm_congr (n := n) fun q hq => h q (by omega), h n (by omega)]
theorem dp_congr {o o' : Dat} {n : Nat} (h : ∀ q, q < n → o.ii q 1 = o'.ii q 1) : dp o n = dp o' n := by
  cases n with
  | zero => rfl
  | succ n => exact h n (by omega)
theorem app3 (o : Dat) (n q : Nat) (hq : q < n + 1) (a b c : Int) : ((o.app n (datS [SV.int IntKind.i64 a, SV.int IntKind.i64 b, SV.int IntKind.i64 c] 3)).ii q 0 = if q = n then a else o.ii q 0) ∧ ((o.app n (datS [SV.int IntKind.i64 a, SV.int IntKind.i64 b, SV.int IntKind.i64 c] 3)).ii q 1 = if q = n then b else o.ii q 1) ∧ ((o.app n (datS [SV.int IntKind.i64 a, SV.int IntKind.i64 b, SV.int IntKind.i64 c] 3)).ii q 2 = if q = n then c else o.ii q 2) := by
  by_cases h : q = n
  · subst h; rw [app_eq, app_eq, app_eq, if_pos rfl, if_pos rfl, if_pos rfl]; exact ⟨rfl, rfl, rfl⟩
  · have : q < n := by omega
    rw [app_lt this, app_lt this, app_lt this, if_neg h, if_neg h, if_neg h]; exact ⟨rfl, rfl, rfl⟩
def Ag (n : Nat) (o o' : Dat) : Prop := ∀ q, q < n → o.ii q 0 = o'.ii q 0 ∧ o.ii q 1 = o'.ii q 1 ∧ o.ii q 2 = o'.ii q 2
theorem Ag.sm {n : Nat} {o o' : Dat} (h : Ag n o o') {q : Nat} (hq : q ≤ n) : sm o q = sm o' q := sm_congr fun k hk => (h k (by omega)).1
theorem Ag.dp {n : Nat} {o o' : Dat} (h : Ag n o o') {q : Nat} (hq : q ≤ n) : dp o q = dp o' q := dp_congr fun k hk => (h k (by omega)).2.1
end Go.Proofs.YtchhhoamnagbfaaGreatDoor
namespace Go.Proofs.YtchhhoamnagbfaaGreatDoor
open Go Go.Sy
set_option linter.unusedVariables false
set_option linter.unusedSimpArgs false
set_option maxRecDepth 100000
section
variable {a : ByteArray} {b : Int} {ng : Nat} {g : Dat} {L : Nat} {e : Dat}
theorem upd1 (o : Dat) (k q : Nat) (a b : Int) : (((o.upd k 0 [SV.int IntKind.i64 a]).upd k 1 [SV.int IntKind.i64 b]).ii q 0 = if q = k then a else o.ii q 0) ∧ (((o.upd k 0 [SV.int IntKind.i64 a]).upd k 1 [SV.int IntKind.i64 b]).ii q 1 = if q = k then b else o.ii q 1) ∧ (((o.upd k 0 [SV.int IntKind.i64 a]).upd k 1 [SV.int IntKind.i64 b]).ii q 2 = o.ii q 2) := by
  by_cases h : q = k <;> simp [Dat.upd, h]
end
end Go.Proofs.YtchhhoamnagbfaaGreatDoor
namespace Go.Proofs.YtchhhoamnagbfaaGreatDoor
open Go Go.Sy
set_option linter.unusedVariables false
set_option linter.unusedSimpArgs false
set_option maxRecDepth 100000
def On (L : Nat) (e : Dat) (s : Int) (r : Nat) : Prop := r < L ∧ sm e r < s ∧ s ≤ sm e (r + 1)
def Ln (e : Dat) (r : Nat) (s : Int) : Int := dp e r * (sm e (r + 1) - s) + dp e (r + 1) * (s - sm e r)
section
variable {a : ByteArray} {b : Int} {ng : Nat} {g : Dat} {L : Nat} {e : Dat}
theorem Pln.lt (P : Pln a b ng g L e) : ∀ {i j : Nat}, i < j → j ≤ L → sm e i < sm e j
  | i, 0, h, _ => absurd h (Nat.not_lt_zero _)
  | i, j + 1, h, hj => by
    have l := P.leg0 (show j < L by omega)
    have s : sm e (j + 1) = sm e j + e.ii j 0 := rfl
    by_cases hh : i = j
    · subst hh; omega
    · have := P.lt (i := i) (j := j) (by omega) (by omega); omega
theorem Pln.le (P : Pln a b ng g L e) {i j : Nat} (h : i ≤ j) (hj : j ≤ L) : sm e i ≤ sm e j := by
  by_cases hh : i = j
  · subst hh; exact Int.le_refl _
  · exact Int.le_of_lt (P.lt (by omega) hj)
theorem On.one (P : Pln a b ng g L e) {s : Int} {r r' : Nat} (h : On L e s r) (h' : On L e s r') : r = r' := by
  rcases Nat.lt_trichotomy r r' with c | c | c
  · have := P.le (show r + 1 ≤ r' by omega) (by have := h'.1; omega); have := h.2.2; have := h'.2.1; omega
  · exact c
  · have := P.le (show r' + 1 ≤ r by omega) (by have := h.1; omega); have := h'.2.2; have := h.2.1; omega
end
section
variable {a : ByteArray} {b : Int} {ng : Nat} {g : Dat} {L : Nat} {e : Dat} {a' : ByteArray} {b' : Int} {ng' : Nat} {g' : Dat} {L' : Nat} {e' : Dat}
end
end Go.Proofs.YtchhhoamnagbfaaGreatDoor
namespace Go.Proofs.YtchhhoamnagbfaaGreatDoor
open Go Go.Sy
set_option linter.unusedVariables false
set_option linter.unusedSimpArgs false
set_option maxRecDepth 100000
section
variable {a : ByteArray} {b : Int} {ng : Nat} {g : Dat} {L : Nat} {e : Dat}
theorem pln_trk (P : Pln a b ng g L e) {D : Dat} (hD : PtsOf e (L + 1) D) (h : 0 < L) : Trk (L + 1) D := by
  have hL := P.legs
  refine ⟨by omega, by omega, fun i hi => ?_, fun i hi => ?_, fun i hi => ?_⟩
  · rw [(hD i hi).1]; have := P.nonneg (show i ≤ L by omega); have := P.sum i (by omega); omega
  · rw [(hD i hi).2]; exact P.dep (by omega)
  · rw [(hD i (by omega)).1, (hD (i + 1) hi).1]; exact P.lt (by omega) (by omega)
theorem plan_at (P : Pln a b ng g L e) {D : Dat} (hD : PtsOf e (L + 1) D) {s : Int} (h0 : 0 ≤ s) (h1 : s ≤ sm e L) : n31 (L + 1) D s = true ∧ (1 ≤ (m31 (L + 1) D s).2 ∧ (m31 (L + 1) D s).2 ≤ 1000001) ∧ (0 ≤ (m31 (L + 1) D s).1 ∧ (m31 (L + 1) D s).1 ≤ 30000030000) ∧ (s = 0 → m31 (L + 1) D s = (0, 1)) ∧
    (0 < s → ∃ r, On L e s r ∧ n35 (L + 1) D s = true ∧ m35 (L + 1) D s = ((r + 1 : Nat) : Int) ∧ (m31 (L + 1) D s).1 * e.ii r 0 = Ln e r s * (m31 (L + 1) D s).2) := by
  by_cases hL0 : L = 0
  · subst hL0
    have hs : s = 0 := by have : sm e 0 = 0 := rfl; omega
    subst hs
    have d0 := hD 0 (by decide)
    have z : D.ii 0 0 = 0 := d0.1
    have z1 : D.ii 0 1 = 0 := d0.2
    have o79 : o59c60_0 (((0 + 1 : Nat) : Int) - 1).toNat (D.shift 1) (datC [SV.int IntKind.i64 0]) ((((((0 + 1 : Nat) : Int) - 1).toNat : Nat) : Int)) 0 = some (false, default, ()) := by kernel_rfl
    have m79e : m35 (0 + 1) D 0 = 0 := by
      simp only [m35, m59c60, o79, Option.getD_some, cond_false]; decide
    have n79e : n35 (0 + 1) D 0 = true := by
      simp only [n35, n59c60, o79, Option.isSome_some]; rfl
    have e53 : m31 (0 + 1) D 0 = (0, 1) := by simp only [m31, m79e, z, z1, decide_true, cond_true]
    refine ⟨by simp only [n31, n79e, m79e, z, decide_true, cond_true, cond_false, Bool.cond_self]; rfl, by rw [e53]; exact ⟨by decide, by decide⟩, by rw [e53]; exact ⟨by decide, by decide⟩, fun _ => e53, fun h => absurd h (Int.lt_irrefl _)⟩
  · have T := pln_trk P hD (by omega)
    have hL := P.legs
    have z0 : D.ii 0 0 = 0 := (hD 0 (by omega)).1
    have zL : D.ii (L + 1 - 1) 0 = sm e L := (hD L (by omega)).1
    obtain ⟨a1, a2⟩ := at_ok T (x := s) (by rw [z0]; exact h0) (by rw [zL]; exact h1)
    have bd := a2.bnd T
    refine ⟨a1, bd.1, ⟨bd.2.1, by omega⟩, fun hs => ?_, fun hs => ?_⟩
    · subst hs
      have := a2
      rw [← z0] at this
      obtain ⟨u1, u2⟩ := this.at_point T (k := 0) (by omega)
      have d1 : D.ii 0 1 = 0 := (hD 0 (by omega)).2
      rw [z0] at u1 u2
      rw [d1] at u1
      exact Prod.ext u1 u2
    · obtain ⟨l1, r, r1, r2, r3, r4, r5⟩ := leg_ok T (x := s) (by rw [zL]; exact h1)
      have on : On L e s (r - 1) := by
        refine ⟨by omega, ?_, ?_⟩
        · by_cases hr : r = 1
          · subst hr; exact hs
          · have := r4 (r - 1) (by omega) (by omega)
            rw [(hD (r - 1) (by omega)).1] at this; exact this
        · rw [show r - 1 + 1 = r by omega, ← (hD r r2).1]; exact r3
      refine ⟨r - 1, on, l1, by rw [r5]; congr 1; omega, ?_⟩
      have es : sm e (r - 1 + 1) = sm e (r - 1) + e.ii (r - 1) 0 := rfl
      unfold Ln
      rcases a2 with ⟨k, hk, q1, q2, q3⟩ | ⟨k, hk, q1, q2, q3, q4⟩
      · rw [(hD k hk).1] at q1
        have hkr : k = r - 1 + 1 := by
          obtain ⟨o1, o2, o3⟩ := on
          rcases Nat.lt_trichotomy k (r - 1 + 1) with c | c | c
          · have := P.le (show k ≤ r - 1 by omega) (by omega); omega
          · exact c
          · have := P.lt (show r - 1 + 1 < k by omega) (by omega); omega
        rw [q2, q3, (hD k hk).2, Int.mul_one, q1, hkr, Int.sub_self, Int.mul_zero, Int.zero_add, show sm e (r - 1 + 1) - sm e (r - 1) = e.ii (r - 1) 0 by omega]
      · rw [(hD k (by omega)).1] at q1
        rw [(hD (k + 1) hk).1] at q2
        have onk : On L e s k := ⟨by omega, q1, Int.le_of_lt q2⟩
        obtain rfl := onk.one P on
        rw [q3, q4, (hD (r - 1) (by omega)).1, (hD (r - 1 + 1) hk).1, (hD (r - 1) (by omega)).2, (hD (r - 1 + 1) hk).2, show sm e (r - 1 + 1) - sm e (r - 1) = e.ii (r - 1) 0 by omega]
theorem followed_ok (ha : a.size ≤ 9223372036854775807) (hg : ng ≤ 9223372036854775807) (hL : L ≤ 9223372036854775807) (s : Int) : n30 a b ng g L e s = true ∧
    (((m11 a b ng g L e).2 ≠ 0 ∧ m30 a b ng g L e s = (0, noDat, (m11 a b ng g L e).2)) ∨ (Pln a b ng g L e ∧ ¬ (0 ≤ s ∧ s ≤ sm e L) ∧ m30 a b ng g L e s = (0, noDat, 2)) ∨ (Pln a b ng g L e ∧ (0 ≤ s ∧ s ≤ sm e L) ∧ ∃ D, PtsOf e (L + 1) D ∧ m30 a b ng g L e s = (L + 1, D, 0))) := by
  obtain ⟨o1, o2⟩ := one_plan a b ng g L e ha hg hL
  obtain ⟨p1, p2, p3, p4, p5⟩ := plan_ok a b ng g L e ha hg hL
  by_cases hz : (m11 a b ng g L e).2 = 0
  · have P := p4 hz
    rw [hz] at o2
    obtain ⟨t1, D, t2, t3⟩ := track_ok P
    obtain ⟨e1, e2⟩ := end_ok P t3
    refine ⟨by simp only [n30, o1, o2, t1, t2, e1, decide_true, cond_true, cond_false, Bool.and_self], .inr ?_⟩
    by_cases hs : 0 ≤ s ∧ s ≤ sm e L
    · exact .inr ⟨P, hs, D, t3, by simp only [m30, o2, t2, e2, m51_iff.2 hs, decide_true, cond_true, cond_false]⟩
    · exact .inl ⟨P, hs, by simp only [m30, o2, t2, e2, m51_no hs, decide_true, cond_true, cond_false]⟩
  · refine ⟨by simp only [n30, o1, o2, decide_eq_false hz, cond_true, cond_false, Bool.and_self], .inl ⟨hz, by simp only [m30, o2, decide_eq_false hz, cond_true, cond_false]⟩⟩
theorem whole_iff {X W : Int} (hX : 0 ≤ X ∧ X ≤ 30000030000) (hW : 1 ≤ W ∧ W ≤ 1000001) : n32 X W = true ∧ ((m32 X W).1 = (m32 X W).2 → (m32 X W).1 * W = X) ∧ (∀ d, d * W = X → m32 X W = (d, d)) := by
  have q0 := Int.ediv_nonneg hX.1 (show 0 ≤ W by omega)
  have q1 := Int.ediv_le_self W hX.1
  have q2 := Int.ediv_nonneg (show 0 ≤ X + W - 1 by omega) (show 0 ≤ W by omega)
  have q3 := Int.ediv_le_self W (show 0 ≤ X + W - 1 by omega)
  have e54 : m32 X W = (X / W, (X + W - 1) / W) := by
    simp only [m32]
    rw [wr (n := X + W) (by omega) (by omega), wr (n := X + W - 1) (by omega) (by omega), Int.tdiv_eq_ediv_of_nonneg hX.1, Int.tdiv_eq_ediv_of_nonneg (by omega), wr (n := X / W) (by omega) (by omega), wr (n := (X + W - 1) / W) (by omega) (by omega)]
  have a1 := Int.mul_ediv_add_emod X W
  have a2 := Int.emod_nonneg X (show W ≠ 0 by omega)
  have a3 := Int.mul_ediv_add_emod (X + W - 1) W
  have a4 := Int.emod_lt_of_pos (X + W - 1) (show 0 < W by omega)
  refine ⟨(round_ne (by omega)).1, fun h => ?_, fun d hd => ?_⟩
  · rw [e54] at h ⊢
    simp only at h ⊢
    rw [← h] at a3
    rw [Int.mul_comm]; omega
  · rw [e54]
    have d1 : X / W = d := by rw [← hd]; exact Int.mul_ediv_cancel d (by omega)
    have d2 : (X + W - 1) / W = d := by
      refine ((Int.ediv_emod_unique (r := W - 1) (show 0 < W by omega)).2 ⟨?_, by omega, by omega⟩).1
      rw [← hd, Int.mul_comm W d]; omega
    rw [d1, d2]
theorem frac_cancel {X W Y T d : Int} (hW : 0 < W) (hT : 0 < T) (h : X * T = Y * W) : d * W = X ↔ d * T = Y := by
  constructor
  · intro k
    have : (d * T) * W = Y * W := by rw [← h, ← k]; ac_rfl
    exact Int.eq_of_mul_eq_mul_right (by omega) this
  · intro k
    have : (d * W) * T = X * T := by rw [h, ← k]; ac_rfl
    exact Int.eq_of_mul_eq_mul_right (by omega) this
theorem before_ok (ha : a.size ≤ 9223372036854775807) (hg : ng ≤ 1073741824) (hL : L ≤ 1073741824) (s : Int) : n10 a b ng g L e s = true ∧
    (((m11 a b ng g L e).2 ≠ 0 ∧ m10 a b ng g L e s = (({ data := #[] } : ByteArray), 0, 0, noDat, 0, noDat, (m11 a b ng g L e).2)) ∨
     (Pln a b ng g L e ∧ ¬ (0 ≤ s ∧ s ≤ sm e L) ∧ m10 a b ng g L e s = (({ data := #[] } : ByteArray), 0, 0, noDat, 0, noDat, 2)) ∨
     (Pln a b ng g L e ∧ s = 0 ∧ m10 a b ng g L e s = (a, b, ng, g, 0, noDat, 0)) ∨
     (Pln a b ng g L e ∧ 0 < s ∧ ∃ r, On L e s r ∧ (((¬ ∃ d, d * e.ii r 0 = Ln e r s) ∧ m10 a b ng g L e s = (({ data := #[] } : ByteArray), 0, 0, noDat, 0, noDat, 3)) ∨
       ∃ d, d * e.ii r 0 = Ln e r s ∧ m10 a b ng g L e s = (a, b, ng, g, r + 1, (e.upd r 0 [SV.int IntKind.i64 (s - sm e r)]).upd r 1 [SV.int IntKind.i64 d], 0)))) := by
  obtain ⟨f1, f2⟩ := followed_ok (a := a) (b := b) (ng := ng) (g := g) (L := L) (e := e) ha (by omega) (by omega) s
  have zg : decide (ng ≤ 1073741824) = true := decide_eq_true hg
  rcases f2 with ⟨h1, h2⟩ | ⟨P, h1, h2⟩ | ⟨P, h1, D, hD, h2⟩
  · exact ⟨by simp only [n10, f1, h2, decide_eq_false h1, cond_true, cond_false, Bool.and_self], .inl ⟨h1, by simp only [m10, h2, decide_eq_false h1, cond_true, cond_false]⟩⟩
  · have z2 : decide ((2 : Int) = 0) = false := rfl
    exact ⟨by simp only [n10, f1, h2, z2, cond_true, cond_false, Bool.and_self], .inr (.inl ⟨P, h1, by simp only [m10, h2, z2, cond_true, cond_false]⟩)⟩
  · obtain ⟨a1, a2, a3, a4, a5⟩ := plan_at P hD h1.1 h1.2
    obtain ⟨w1, w2, w3⟩ := whole_iff a3 a2
    have z0 : decide ((0 : Int) = 0) = true := rfl
    by_cases hs : s = 0
    · have e53 := a4 hs
      subst hs
      have e54 : m32 0 1 = (0, 0) := by have := w3; rw [e53] at this; exact this 0 rfl
      rw [e53] at w1
      have z5 : decide ((0 : Int) < 0) = false := rfl
      exact ⟨by simp only [n10, f1, h2, a1, e53, w1, e54, z0, z5, zg, Nat.zero_add, Nat.le_refl, decide_true, cond_true, cond_false, Bool.and_self], .inr (.inr (.inl ⟨P, rfl, by simp only [m10, h2, e53, e54, z0, z5, decide_true, cond_true, cond_false]⟩))⟩
    · obtain ⟨r, on, l1, l2, l3⟩ := a5 (by omega)
      have lr := P.leg0 on.1
      have ci := fun d => frac_cancel (d := d) (show 0 < (m31 (L + 1) D s).2 by omega) (show 0 < e.ii r 0 by omega) l3
      have z5 : decide ((0 : Int) < s) = true := decide_eq_true (by omega)
      have hLL := P.legs
      have hr := on.1
      have v1 : IntKind.i64.wrap (((r + 1 : Nat) : Int) - 1) = (r : Int) := by rw [wr (by omega) (by omega)]; omega
      have v2 : (((r + 1 : Nat) : Int) - 0).toNat = r + 1 := by omega
      have v3 : D.ii r 0 = sm e r := (hD r (by omega)).1
      have nn := P.nonneg (show r ≤ L by omega); have tt := P.sum L (Nat.le_refl _); have tr := P.sum r (by omega)
      have v4 : IntKind.i64.wrap (s - sm e r) = s - sm e r := wr (by omega) (by omega)
      have x1 : decide ((0 : Int) ≤ (0 : Int) ∧ (0 : Int) ≤ ((r + 1 : Nat) : Int) ∧ ((r + 1 : Nat) : Int) ≤ (L : Int)) = true := decide_eq_true ⟨by omega, by omega, by omega⟩
      have x2 : decide (r + 1 ≤ 1073741824) = true := decide_eq_true (by omega)
      have x3 : decide (0 ≤ (r : Int) ∧ (r : Int) < ((L + 1 : Nat) : Int)) = true := decide_eq_true ⟨by omega, by omega⟩
      have x4 : decide (0 ≤ (r : Int) ∧ (r : Int) < ((r + 1 : Nat) : Int)) = true := decide_eq_true ⟨by omega, by omega⟩
      have x5 : decide (r < r + 1) = true := decide_eq_true (by omega)
      by_cases hd : (m32 (m31 (L + 1) D s).1 (m31 (L + 1) D s).2).1 = (m32 (m31 (L + 1) D s).1 (m31 (L + 1) D s).2).2
      · have k := w2 hd
        have kd := (ci _).1 k
        refine ⟨by simp only [n10, f1, h2, a1, w1, decide_eq_true hd, z0, z5, zg, l1, l2, v1, v2, Int.toNat_natCast, x1, x2, x3, x4, x5, Nat.zero_add, Nat.le_refl, decide_true, cond_true, cond_false, Bool.and_self], .inr (.inr (.inr ⟨P, by omega, r, on, .inr ⟨_, kd, ?_⟩⟩))⟩
        simp only [m10, h2, decide_eq_true hd, z0, z5, l2, v1, v2, v3, v4, Int.toNat_natCast, decide_true, cond_true, cond_false]
      · refine ⟨by simp only [n10, f1, h2, a1, w1, decide_eq_false hd, z0, decide_true, cond_true, cond_false, Bool.and_self], .inr (.inr (.inr ⟨P, by omega, r, on, .inl ⟨fun ⟨d, hh⟩ => hd ?_, ?_⟩⟩))⟩
        · rw [w3 d ((ci d).2 hh)]
        · simp only [m10, h2, decide_eq_false hd, z0, decide_true, cond_true, cond_false]
end
end Go.Proofs.YtchhhoamnagbfaaGreatDoor
namespace Go.Proofs.YtchhhoamnagbfaaGreatDoor
open Go Go.Sy
set_option linter.unusedVariables false
set_option linter.unusedSimpArgs false
set_option maxRecDepth 100000
section
variable {a : ByteArray} {b : Int} {ng : Nat} {g : Dat} {L : Nat} {e : Dat}
theorem frac_swap {X W X' W' T Y : Int} (hT : 0 < T) (h : X * T = Y * W) (k : X' * T = Y * W') : X * W' = X' * W := by
  have : (X * W') * T = (X' * W) * T := by
    have e1 : (X * W') * T = (X * T) * W' := by ac_rfl
    have e2 : (X' * W) * T = (X' * T) * W := by ac_rfl
    rw [e1, e2, h, k]; ac_rfl
  exact Int.eq_of_mul_eq_mul_right (by omega) this
theorem ref_ln (P : Pln a b ng g L e) {E : Dat} (hE : PtsOf e (L + 1) E) {s : Int} (h0 : 0 ≤ s) (h1 : s ≤ sm e L) : n40 (L + 1) E s = true ∧ (1 ≤ (m40 (L + 1) E s).2 ∧ (m40 (L + 1) E s).2 ≤ 1000001) ∧ (0 ≤ (m40 (L + 1) E s).1 ∧ (m40 (L + 1) E s).1 ≤ 30000030000) ∧ (s = 0 → (m40 (L + 1) E s).1 = 0) ∧
    (∀ r, On L e s r → (m40 (L + 1) E s).1 * e.ii r 0 = Ln e r s * (m40 (L + 1) E s).2) ∧ (∀ r, On L e s r → s < sm e (r + 1) → m40 (L + 1) E s = (Ln e r s, e.ii r 0)) := by
  by_cases hL0 : L = 0
  · subst hL0
    have hs : s = 0 := by have : sm e 0 = 0 := rfl; omega
    subst hs
    have z1 : E.ii 0 1 = 0 := (hE 0 (by decide)).2
    have o : o40_0 (0 + 1) E 0 1 = some (false, default, ()) := by kernel_rfl
    have e40 : m40 (0 + 1) E 0 = (0, 1) := by simp only [m40, o, Option.getD_some, cond_false, z1]
    refine ⟨by simp only [n40, o, Option.getD_some, Option.isSome_some, cond_false]; rfl, by rw [e40]; exact ⟨by decide, by decide⟩, by rw [e40]; exact ⟨by decide, by decide⟩, fun _ => by rw [e40], fun r h => absurd h.1 (Nat.not_lt_zero _), fun r h => absurd h.1 (Nat.not_lt_zero _)⟩
  · have T := pln_trk P hE (by omega)
    have z0 : E.ii 0 0 = 0 := (hE 0 (by omega)).1
    have zL : E.ii (L + 1 - 1) 0 = sm e L := (hE L (by omega)).1
    obtain ⟨a1, a2⟩ := at_ok T (x := s) (by rw [z0]; exact h0) (by rw [zL]; exact h1)
    obtain ⟨b1, b2⟩ := ref_at T (x := s) (by rw [z0]; exact h0) (by rw [zL]; exact h1)
    have bd := b2.bnd T
    have al := (at_ref T a2 b2).1
    obtain ⟨p1, p2, p3, p4, p5⟩ := plan_at P hE h0 h1
    refine ⟨b1, bd.1, bd.2, fun hs => ?_, fun r hr => ?_, fun r hr hlt => ?_⟩
    · rw [p4 hs] at al; simp only [Int.zero_mul, Int.mul_one] at al; omega
    · obtain ⟨o1, o2, o3⟩ := hr
      have nn := P.nonneg (show r ≤ L by omega)
      obtain ⟨r', q1, _, _, q4⟩ := p5 (by omega)
      obtain rfl := q1.one P ⟨o1, o2, o3⟩
      have lr := P.leg0 o1
      have : ((m40 (L + 1) E s).1 * e.ii r' 0) * (m31 (L + 1) E s).2 = (Ln e r' s * (m40 (L + 1) E s).2) * (m31 (L + 1) E s).2 := by
        have e1 : ((m40 (L + 1) E s).1 * e.ii r' 0) * (m31 (L + 1) E s).2 = ((m40 (L + 1) E s).1 * (m31 (L + 1) E s).2) * e.ii r' 0 := by ac_rfl
        have e2 : (Ln e r' s * (m40 (L + 1) E s).2) * (m31 (L + 1) E s).2 = (Ln e r' s * (m31 (L + 1) E s).2) * (m40 (L + 1) E s).2 := by ac_rfl
        rw [e1, e2, ← al, ← q4]; ac_rfl
      exact Int.eq_of_mul_eq_mul_right (by omega) this
    · obtain ⟨o1, o2, o3⟩ := hr
      obtain ⟨k, k1, k2, k3, k4, k5, k6⟩ := b2
      rw [(hE (k - 1) (by omega)).1] at k3 k5 k6
      rw [(hE k k2).1] at k4 k5 k6
      rw [(hE (k - 1) (by omega)).2, (hE k k2).2] at k5
      have hk : k = r + 1 := by
        rcases Nat.lt_trichotomy k (r + 1) with c | c | c
        · have := P.le (show k ≤ r by omega) (by omega); omega
        · exact c
        · have := P.le (show r + 1 ≤ k - 1 by omega) (by omega); omega
      subst hk
      rw [Nat.add_sub_cancel] at k5 k6
      have es : sm e (r + 1) = sm e r + e.ii r 0 := rfl
      refine Prod.ext ?_ (by rw [k6]; omega)
      rw [k5]
      unfold Ln
      rw [Int.sub_mul, Int.mul_sub, Int.mul_sub, Int.mul_sub, Int.mul_sub]; omega
theorem depth_ok (P : Pln a b ng g L e) {D : Dat} (hD : PtsOf e (L + 1) D) {s : Int} (h0 : 0 ≤ s) (h1 : s ≤ sm e L) : ∃ E, m16 a b ng g L e = (L + 1, E) ∧ PtsOf e (L + 1) E ∧ n31 (L + 1) D s = true ∧ n32 (m31 (L + 1) D s).1 (m31 (L + 1) D s).2 = true ∧ n15 (L + 1) E s = true ∧ m32 (m31 (L + 1) D s).1 (m31 (L + 1) D s).2 = m15 (L + 1) E s := by
  obtain ⟨_, E, u2, u3⟩ := points_ok P
  obtain ⟨p1, p2, p3, p4, p5⟩ := plan_at P hD h0 h1
  obtain ⟨q1, q2, q3, q4, q5, _⟩ := ref_ln P u3 h0 h1
  have al : (m31 (L + 1) D s).1 * (m40 (L + 1) E s).2 = (m40 (L + 1) E s).1 * (m31 (L + 1) D s).2 := by
    by_cases hs : s = 0
    · rw [p4 hs, q4 hs]; simp only [Int.zero_mul]
    · obtain ⟨r, o1, _, _, o4⟩ := p5 (by omega)
      exact frac_swap (by have := P.leg0 o1.1; omega) o4 (q5 r o1)
  refine ⟨E, u2, u3, p1, (round_ne (by omega)).1, by simp only [n15, q1, (round_ne (X := (m40 (L + 1) E s).1) (W := (m40 (L + 1) E s).2) (by omega)).2, Bool.and_self], ?_⟩
  simp only [m15]
  exact round_alike p3 p2 q3 q2 al
theorem gas_leg (P : Pln a b ng g L e) {D : Dat} (hD : PtsOf e (L + 1) D) (hL : 0 < L) {s : Int} (h1 : s ≤ sm e L) : ∃ r, r < L ∧ s ≤ sm e (r + 1) ∧ (∀ j, j < r → sm e (j + 1) < s) ∧ n35 (L + 1) D s = true ∧ m35 (L + 1) D s = ((r + 1 : Nat) : Int) := by
  have T := pln_trk P hD hL
  have zL : D.ii (L + 1 - 1) 0 = sm e L := (hD L (by omega)).1
  obtain ⟨l1, r, r1, r2, r3, r4, r5⟩ := leg_ok T (x := s) (by rw [zL]; exact h1)
  refine ⟨r - 1, by omega, by rw [show r - 1 + 1 = r by omega, ← (hD r r2).1]; exact r3, fun j hj => ?_, l1, by rw [r5]; congr 1; omega⟩
  have := r4 (j + 1) (by omega) (by omega)
  rw [(hD (j + 1) (by omega)).1] at this; exact this
theorem refgas_run (P : Pln a b ng g L e) {s : Int} {r : Nat} (hr : r < L) (h1 : s ≤ sm e (r + 1)) (h2 : ∀ j, j < r → sm e (j + 1) < s) : ∀ (k i f : Nat), i + k = r → k < f → l17_0 s a b ng g L e f (sm e i) (i : Int) = some (true, e.ii r 2, default)
  | 0, i, f, hi, hf => by
    obtain ⟨f, rfl⟩ : ∃ f0, f = f0 + 1 := ⟨f - 1, by omega⟩
    obtain rfl : i = r := by omega
    have n0 := P.nonneg (show i ≤ L by omega); have t1 := P.sum (i + 1) (by omega); have l0 := P.leg0 hr
    have es : sm e (i + 1) = sm e i + e.ii i 0 := rfl
    have ws : IntKind.i64.wrap (sm e i + e.ii i 0) = sm e (i + 1) := by rw [← es]; exact wr (by omega) (by omega)
    simp only [l17_0, cdl hr, cdd hr, Int.toNat_natCast, ws, decide_eq_true h1, cond_true]
  | k + 1, i, f, hi, hf => by
    obtain ⟨f, rfl⟩ : ∃ f0, f = f0 + 1 := ⟨f - 1, by omega⟩
    have hlt : i < L := by omega
    have hL := P.legs
    have n0 := P.nonneg (show i ≤ L by omega); have t1 := P.sum (i + 1) (by omega); have l0 := P.leg0 hlt
    have es : sm e (i + 1) = sm e i + e.ii i 0 := rfl
    have ws : IntKind.i64.wrap (sm e i + e.ii i 0) = sm e (i + 1) := by rw [← es]; exact wr (by omega) (by omega)
    have hh := h2 i (by omega)
    simp only [l17_0, cdl hlt, cdd hlt, Int.toNat_natCast, ws, decide_eq_false (show ¬ s ≤ sm e (i + 1) by omega), cond_true, cond_false, wrS hlt (by omega)]
    exact refgas_run P hr h1 h2 k (i + 1) f (by omega) (by omega)
theorem refgas_ok (P : Pln a b ng g L e) {s : Int} {r : Nat} (hr : r < L) (h1 : s ≤ sm e (r + 1)) (h2 : ∀ j, j < r → sm e (j + 1) < s) : n17 a b ng g L e s = true ∧ m17 a b ng g L e s = e.ii r 2 := by
  have hL := P.legs
  have h : o17_0 s a b ng g L e 0 0 = some (true, e.ii r 2, default) := refgas_run P hr h1 h2 r 0 (s.toNat + Int.toNat 0 + Int.toNat 0 + a.size + b.toNat + ng + L + 8) (by omega) (by omega)
  exact ⟨by simp only [n17, h, Option.isSome_some, Bool.and_self], by simp only [m17, h, Option.getD_some, cond_true]⟩
def Upto (L : Nat) (e : Dat) (s : Int) (r : Nat) (d : Int) (o : Dat) : Prop := (∀ q, q < r → o.ii q 0 = e.ii q 0 ∧ o.ii q 1 = e.ii q 1 ∧ o.ii q 2 = e.ii q 2) ∧ o.ii r 0 = s - sm e r ∧ o.ii r 1 = d ∧ o.ii r 2 = e.ii r 2
theorem refbefore_run (P : Pln a b ng g L e) {s : Int} {r : Nat} (on : On L e s r) (d : Option Int) (hd : ∀ x, d = some x → x * e.ii r 0 = Ln e r s) (hn : d = none → ¬ ∃ x, x * e.ii r 0 = Ln e r s) (p0 : ByteArray) (p1 : Int) (p2 : ByteArray) (p3 : Int) (p4 : Nat) (p5 : Dat) : ∀ (k i f : Nat) (o : Dat), i + k = r → k + 1 < f → Ag i o e →
    (d = none ∧ ∃ y z, l18_0 s a b ng g L e p0 p1 p2 p3 p4 p5 f (sm e i) (i : Int) i o = some (true, (3, (({ data := #[] } : ByteArray)), 0, y, y, z), default)) ∨
    ∃ x o', d = some x ∧ l18_0 s a b ng g L e p0 p1 p2 p3 p4 p5 f (sm e i) (i : Int) i o = some (false, default, (r + 1, r + 1, o')) ∧ Upto L e s r x o'
  | 0, i, f, o, hi, hf, hA => by
    obtain ⟨f, rfl⟩ : ∃ f0, f = f0 + 2 := ⟨f - 2, by omega⟩
    obtain rfl : i = r := by omega
    obtain ⟨o1, o2, o3⟩ := on
    have hL := P.legs
    have n0 := P.nonneg (show i ≤ L by omega); have t1 := P.sum (i + 1) (by omega); have l0 := P.leg0 o1
    have es : sm e (i + 1) = sm e i + e.ii i 0 := rfl
    have ws : IntKind.i64.wrap (sm e i + e.ii i 0) = sm e (i + 1) := by rw [← es]; exact wr (by omega) (by omega)
    have c0 : (bif decide ((i : Int) < (L : Int)) then decide (sm e i < s) else false) = true := by rw [cdl o1, decide_eq_true o2]; rfl
    have z3 : decide (i + 1 ≤ 1073741824) = true := decide_eq_true (by omega)
    have c1 : (bif decide (((i + 1 : Nat) : Int) < (L : Int)) then decide (sm e (i + 1) < s) else false) = false := by
      rw [decide_eq_false (show ¬ sm e (i + 1) < s by omega)]; cases decide (((i + 1 : Nat) : Int) < (L : Int)) <;> rfl
    by_cases hc : s < sm e (i + 1)
    · obtain ⟨u1, E, u2, u3⟩ := points_ok P
      have hsL : s ≤ sm e L := by have := P.le (show i + 1 ≤ L by omega) (Nat.le_refl _); omega
      obtain ⟨q1, q2, q3, q4, q5, q6⟩ := ref_ln P u3 (s := s) (by omega) hsL
      have e40 := q6 i ⟨o1, o2, o3⟩ hc
      rw [e40] at q2 q3
      simp only at q2 q3
      have zd : decide (e.ii i 0 = 0) = false := decide_eq_false (by omega)
      have wsb : IntKind.i64.wrap (s - sm e i) = s - sm e i := wr (by omega) (by omega)
      by_cases hm : (Ln e i s).tmod (e.ii i 0) = 0
      · have dv : (Ln e i s).tdiv (e.ii i 0) * e.ii i 0 = Ln e i s := by
          have := Int.mul_tdiv_add_tmod (Ln e i s) (e.ii i 0)
          rw [hm] at this
          rw [Int.mul_comm]; omega
        cases hdd : d with
        | none => exact absurd ⟨_, dv⟩ (hn hdd)
        | some x =>
        have hx : (Ln e i s).tdiv (e.ii i 0) = x := Int.eq_of_mul_eq_mul_right (show e.ii i 0 ≠ 0 by omega) (dv.trans (hd x hdd).symm)
        have xb : 0 ≤ x ∧ x ≤ 30000030000 := by
          rw [← hx, Int.tdiv_eq_ediv_of_nonneg q3.1]
          have := Int.ediv_nonneg q3.1 (show 0 ≤ e.ii i 0 by omega)
          have := Int.ediv_le_self (e.ii i 0) q3.1
          omega
        have wx : IntKind.i64.wrap x = x := wr (by omega) (by omega)
        refine .inr ⟨x, o.app i (datS [SV.int IntKind.i64 (s - sm e i), SV.int IntKind.i64 x, SV.int IntKind.i64 (e.ii i 2)] 3), rfl, ?_, fun q hq => ?_, by rw [app_eq]; rfl, by rw [app_eq]; rfl, by rw [app_eq]; rfl⟩
        · simp only [l18_0, c0, c1, cdd o1, Int.toNat_natCast, ws, decide_eq_true hc, u1, u2, q1, e40, zd, decide_eq_true hm, z3, wsb, hx, wx, cond_true, cond_false, wrS o1 (by omega)]
        · rw [app_lt hq, app_lt hq, app_lt hq]; exact hA q hq
      · cases hdd : d with
        | some x =>
          exfalso
          apply hm
          rw [← hd x hdd]
          exact Int.mul_tmod_left _ _
        | none =>
          refine .inl ⟨rfl, i, o, ?_⟩
          simp only [l18_0, c0, cdd o1, Int.toNat_natCast, ws, decide_eq_true hc, u1, u2, q1, e40, zd, decide_eq_false hm, cond_true, cond_false]
    · have hs : s = sm e (i + 1) := by omega
      have ln : Ln e i s = e.ii i 1 * e.ii i 0 := by
        unfold Ln
        rw [hs, Int.sub_self, Int.mul_zero, Int.zero_add, show sm e (i + 1) - sm e i = e.ii i 0 by omega]; rfl
      cases hdd : d with
      | none => exact absurd ⟨e.ii i 1, ln.symm⟩ (hn hdd)
      | some x =>
      have hx : x = e.ii i 1 := Int.eq_of_mul_eq_mul_right (show e.ii i 0 ≠ 0 by omega) ((hd x hdd).trans ln)
      refine .inr ⟨x, o.app i (datS [SV.int IntKind.i64 (e.ii i 0), SV.int IntKind.i64 (e.ii i 1), SV.int IntKind.i64 (e.ii i 2)] 3), rfl, ?_, fun q hq => ?_, by rw [app_eq]; show e.ii i 0 = _; omega, by rw [app_eq, hx]; rfl, by rw [app_eq]; rfl⟩
      · simp only [l18_0, c0, c1, cdd o1, Int.toNat_natCast, ws, decide_eq_false hc, z3, cond_true, cond_false, wrS o1 (by omega)]
      · rw [app_lt hq, app_lt hq, app_lt hq]; exact hA q hq
  | k + 1, i, f, o, hi, hf, hA => by
    obtain ⟨f, rfl⟩ : ∃ f0, f = f0 + 1 := ⟨f - 1, by omega⟩
    have hL := P.legs
    have hlt : i < L := by have := on.1; omega
    have n0 := P.nonneg (show i ≤ L by omega); have t1 := P.sum (i + 1) (by omega); have l0 := P.leg0 hlt
    have es : sm e (i + 1) = sm e i + e.ii i 0 := rfl
    have ws : IntKind.i64.wrap (sm e i + e.ii i 0) = sm e (i + 1) := by rw [← es]; exact wr (by omega) (by omega)
    have lo := P.le (show i + 1 ≤ r by omega) (by have := on.1; omega)
    have ho := on.2.1
    have c0 : (bif decide ((i : Int) < (L : Int)) then decide (sm e i < s) else false) = true := by rw [cdl hlt, decide_eq_true (show sm e i < s by omega)]; rfl
    have z3 : decide (i + 1 ≤ 1073741824) = true := decide_eq_true (by omega)
    have ih := refbefore_run P on d hd hn p0 p1 p2 p3 p4 p5 k (i + 1) f (o.app i (datS [SV.int IntKind.i64 (e.ii i 0), SV.int IntKind.i64 (e.ii i 1), SV.int IntKind.i64 (e.ii i 2)] 3)) (by omega) (by omega) (fun q hq => by
      obtain ⟨v0, v1, v2⟩ := app3 o i q hq (e.ii i 0) (e.ii i 1) (e.ii i 2)
      rw [v0, v1, v2]
      by_cases c : q = i
      · rw [if_pos c, if_pos c, if_pos c, c]; exact ⟨rfl, rfl, rfl⟩
      · rw [if_neg c, if_neg c, if_neg c]; exact hA q (by omega))
    have red : l18_0 s a b ng g L e p0 p1 p2 p3 p4 p5 (f + 1) (sm e i) (i : Int) i o = l18_0 s a b ng g L e p0 p1 p2 p3 p4 p5 f (sm e (i + 1)) ((i + 1 : Nat) : Int) (i + 1) (o.app i (datS [SV.int IntKind.i64 (e.ii i 0), SV.int IntKind.i64 (e.ii i 1), SV.int IntKind.i64 (e.ii i 2)] 3)) := by
      simp only [l18_0, c0, cdd hlt, Int.toNat_natCast, ws, decide_eq_false (show ¬ s < sm e (i + 1) by omega), z3, cond_true, cond_false, wrS hlt (by omega)]
    rw [red]; exact ih
theorem refbefore_ok (P : Pln a b ng g L e) {s : Int} (h0 : 0 ≤ s) (h1 : s ≤ sm e L) : n18 a b ng g L e s = true ∧
    ((s = 0 ∧ m18 a b ng g L e s = (a, b, ng, g, 0, noDat, 0)) ∨ (0 < s ∧ ∃ r, On L e s r ∧ (((¬ ∃ x, x * e.ii r 0 = Ln e r s) ∧ m18 a b ng g L e s = (({ data := #[] } : ByteArray), 0, 0, noDat, 0, noDat, 3)) ∨ ∃ x o, x * e.ii r 0 = Ln e r s ∧ Upto L e s r x o ∧ m18 a b ng g L e s = (a, b, ng, g, r + 1, o, 0)))) := by
  have hL := P.legs; have hg := P.few; have ha := P.small
  have n33t : n33 ng g = true := by simp only [n33, Nat.zero_add, decide_eq_true (show ng ≤ 1073741824 by omega), Nat.le_refl, decide_true]; rfl
  have m33e : m33 ng g = (ng, g) := by simp only [m33, Nat.zero_add, app_nil0]
  by_cases hs : s = 0
  · subst hs
    have o : o18_0 0 a b ng g L e (({ data := #[] } : ByteArray)) 0 a b ng g 0 0 0 noDat = some (false, default, (0, 0, noDat)) := by
      have : ∀ F, l18_0 0 a b ng g L e (({ data := #[] } : ByteArray)) 0 a b ng g (F + 1) 0 ((0 : Nat) : Int) 0 noDat = some (false, default, (0, 0, noDat)) := fun F => by
        have c1 : (bif decide (((0 : Nat) : Int) < (L : Int)) then decide ((0 : Int) < 0) else false) = false := by cases decide (((0 : Nat) : Int) < (L : Int)) <;> rfl
        simp only [l18_0, c1, cond_false]
      exact this _
    exact ⟨by simp only [n18, n33t, m33e, o, Option.getD_some, Option.isSome_some, cond_false, Nat.zero_add, Nat.le_refl, decide_true, Bool.and_self], .inl ⟨rfl, by simp only [m18, m33e, o, Option.getD_some, cond_false]⟩⟩
  · obtain ⟨_, D, _, t3⟩ := track_ok P
    obtain ⟨_, _, _, _, p5⟩ := plan_at P t3 h0 h1
    obtain ⟨r, on, _⟩ := p5 (by omega)
    have hr := on.1
    have key := fun (d : Option Int) hd hn => refbefore_run P on d hd hn (({ data := #[] } : ByteArray)) 0 a b ng g r 0 (s.toNat + Int.toNat 0 + Int.toNat 0 + a.size + b.toNat + ng + L + (({ data := #[] } : ByteArray)).size + Int.toNat 0 + a.size + b.toNat + ng + 0 + 8) noDat (by omega) (by omega) (fun q hq => absurd hq (Nat.not_lt_zero _))
    by_cases hx : ∃ x, x * e.ii r 0 = Ln e r s
    · obtain ⟨x, hx⟩ := hx
      rcases key (some x) (fun y hy => by cases hy; exact hx) (fun h => by cases h) with ⟨h, _⟩ | ⟨y, o', hy, k1, k2⟩
      · cases h
      · cases hy
        have o : o18_0 s a b ng g L e (({ data := #[] } : ByteArray)) 0 a b ng g 0 0 0 noDat = some (false, default, (r + 1, r + 1, o')) := k1
        exact ⟨by simp only [n18, n33t, m33e, o, Option.getD_some, Option.isSome_some, cond_false, Nat.zero_add, Nat.le_refl, decide_true, Bool.and_self], .inr ⟨by omega, r, on, .inr ⟨x, o', hx, k2, by simp only [m18, m33e, o, Option.getD_some, cond_false]⟩⟩⟩
    · rcases key none (fun y hy => by cases hy) (fun _ => hx) with ⟨_, y, z, k1⟩ | ⟨y, o', hy, _⟩
      · have o : o18_0 s a b ng g L e (({ data := #[] } : ByteArray)) 0 a b ng g 0 0 0 noDat = some (true, (3, (({ data := #[] } : ByteArray)), 0, y, y, z), default) := k1
        exact ⟨by simp only [n18, n33t, m33e, o, Option.getD_some, Option.isSome_some, cond_true, Bool.and_self], .inr ⟨by omega, r, on, .inl ⟨hx, by simp only [m18, m33e, o, Option.getD_some, cond_true]⟩⟩⟩
      · cases hy
end
end Go.Proofs.YtchhhoamnagbfaaGreatDoor
namespace Go.Proofs.YtchhhoamnagbfaaGreatDoor
open Go Go.Sy
set_option linter.unusedVariables false
set_option linter.unusedSimpArgs false
set_option maxRecDepth 100000
section
variable {a : ByteArray} {b : Int} {ng : Nat} {g : Dat} {L : Nat} {e : Dat} {s : Int}
theorem seconds_bad {x : Int} (hs : m6 a b ng g L e = true) (hx : x ≠ 0) (h7 : n7 a b ng g L e s = true) (h9 : n9 a b ng g L e s = true) (h10 : n10 a b ng g L e s = true) (e7 : m7 a b ng g L e s = (0, 0, x)) (e9 : m9 a b ng g L e s = (0, x)) (e10 : m10 a b ng g L e s = (({ data := #[] } : ByteArray), 0, 0, noDat, 0, noDat, x))
    (h11 : n11 a b ng g L e = true) (h13 : (m11 a b ng g L e).2 = 0 → n13 a b ng g L e = true)
    (hc : ((m11 a b ng g L e).2 = 0 ∧ m12 s 0 (m13 a b ng g L e) = false ∧ x = 2) ∨ ((m11 a b ng g L e).2 ≠ 0 ∧ x = (m11 a b ng g L e).2)) : n3 a b ng g L e s = true ∧ m3 a b ng g L e s = true := by
  obtain ⟨b1, b2, b3⟩ := few_bnd hs
  obtain ⟨c1, c2⟩ := copies_ok (a := a) (b := b) (ng := ng) (g := g) (L := L) (e := e) (by omega) (by omega)
  have w00 : IntKind.i64.wrap (((0 : Nat) : Int) + ((0 : Nat) : Int)) = 0 := wr (by decide) (by decide)
  have n0 : m14 (({ data := #[] } : ByteArray)) 0 0 noDat 0 noDat = true := by simp only [m14, w00, decide_true, cond_true]
  rcases hc with ⟨k1, k2, rfl⟩ | ⟨k1, rfl⟩
  · exact ⟨by simp only [n3, n5_t, m5_t, hs, c1, c2, h7, h9, h10, h11, h13 k1, k1, k2, decide_true, cond_true, cond_false, Bool.and_self, Bool.cond_self], by simp only [m3, m5_t, hs, c2, e7, e9, e10, k1, k2, n0, decide_true, cond_true, cond_false, Bool.cond_self]⟩
  · exact ⟨by simp only [n3, n5_t, m5_t, hs, c1, c2, h7, h9, h10, h11, decide_eq_false k1, cond_true, cond_false, Bool.and_self, Bool.cond_self], by simp only [m3, m5_t, hs, c2, e7, e9, e10, decide_eq_false k1, n0, decide_true, cond_true, cond_false, Bool.cond_self]⟩
theorem seconds_good (hs : m6 a b ng g L e = true) (P : Pln a b ng g L e) (h0 : 0 ≤ s) (h1 : s ≤ sm e L) {D : Dat} (hD : PtsOf e (L + 1) D) (h30 : n30 a b ng g L e s = true) (e30 : m30 a b ng g L e s = (L + 1, D, 0))
    (h10 : n10 a b ng g L e s = true) (hb : m19 (m10 a b ng g L e s).1 (m10 a b ng g L e s).2.1 (m10 a b ng g L e s).2.2.1 (m10 a b ng g L e s).2.2.2.1 (m10 a b ng g L e s).2.2.2.2.1 (m10 a b ng g L e s).2.2.2.2.2.1 (m18 a b ng g L e s).1 (m18 a b ng g L e s).2.1 (m18 a b ng g L e s).2.2.1 (m18 a b ng g L e s).2.2.2.1 (m18 a b ng g L e s).2.2.2.2.1 (m18 a b ng g L e s).2.2.2.2.2.1 = true)
    (hn : n19 (m10 a b ng g L e s).1 (m10 a b ng g L e s).2.1 (m10 a b ng g L e s).2.2.1 (m10 a b ng g L e s).2.2.2.1 (m10 a b ng g L e s).2.2.2.2.1 (m10 a b ng g L e s).2.2.2.2.2.1 (m18 a b ng g L e s).1 (m18 a b ng g L e s).2.1 (m18 a b ng g L e s).2.2.1 (m18 a b ng g L e s).2.2.2.1 (m18 a b ng g L e s).2.2.2.2.1 (m18 a b ng g L e s).2.2.2.2.2.1 = true)
    (he : (m10 a b ng g L e s).2.2.2.2.2.2 = (m18 a b ng g L e s).2.2.2.2.2.2) : n3 a b ng g L e s = true ∧ m3 a b ng g L e s = true := by
  obtain ⟨b1, b2, b3⟩ := few_bnd hs
  have hL := P.legs
  obtain ⟨c1, c2⟩ := copies_ok (a := a) (b := b) (ng := ng) (g := g) (L := L) (e := e) (by omega) (by omega)
  have p2 := (plan_ok a b ng g L e (by omega) (by omega) (by omega)).2.1
  have q := (plan_ok a b ng g L e (by omega) (by omega) (by omega)).2.2.2.2 P
  obtain ⟨v1, v2⟩ := seconds_ok P
  have m12t : m12 s 0 (sm e L) = true := m51_iff.2 ⟨h0, h1⟩
  obtain ⟨E, u1, u2, u3, u4, u5, u6⟩ := depth_ok P hD h0 h1
  have n16t := (points_ok P).1
  have n18t := (refbefore_ok P h0 h1).1
  have m7e : m7 a b ng g L e s = ((m15 (L + 1) E s).1, (m15 (L + 1) E s).2, 0) := by simp only [m7, e30, u6, decide_true, cond_true, cond_false]
  have n7t : n7 a b ng g L e s = true := by simp only [n7, h30, e30, u3, u4, decide_true, cond_true, cond_false, Bool.and_self]
  have hdd : ∀ x : Int, decide (x = x) = true := fun x => decide_eq_true rfl
  have hed : decide ((m10 a b ng g L e s).2.2.2.2.2.2 = (m18 a b ng g L e s).2.2.2.2.2.2) = true := decide_eq_true he
  by_cases hL0 : L = 0
  · have z : decide ((L : Int) = 0) = true := decide_eq_true (by omega)
    have z2 : decide ((0 : Int) < (L : Int)) = false := decide_eq_false (by omega)
    have m9e : m9 a b ng g L e s = (0, 12) := by simp only [m9, e30, z, decide_true, cond_true, cond_false]
    have n9t : n9 a b ng g L e s = true := by simp only [n9, h30, e30, z, decide_true, cond_true, cond_false, Bool.and_self]
    exact ⟨by simp only [n3, n5_t, m5_t, hs, c1, c2, n7t, n9t, h10, p2, q, v1, v2, m12t, n16t, u1, u5, m7e, m9e, z, z2, n18t, hn, hed, hdd, decide_true, cond_true, cond_false, Bool.and_self, Bool.cond_self], by simp only [m3, m5_t, hs, c2, q, v2, m12t, u1, m7e, m9e, z, z2, hb, hed, hdd, decide_true, cond_true, cond_false, Bool.cond_self]⟩
  · obtain ⟨r, r1, r2, r3, r4, r5⟩ := gas_leg P hD (by omega) h1
    obtain ⟨g1, g2⟩ := refgas_ok P r1 r2 r3
    have z : decide ((L : Int) = 0) = false := decide_eq_false (by omega)
    have z2 : decide ((0 : Int) < (L : Int)) = true := decide_eq_true (by omega)
    have v : IntKind.i64.wrap (((r + 1 : Nat) : Int) - 1) = (r : Int) := by rw [wr (by omega) (by omega)]; omega
    have z3 : decide (0 ≤ (r : Int) ∧ (r : Int) < (L : Int)) = true := decide_eq_true ⟨by omega, by omega⟩
    have m9e : m9 a b ng g L e s = (e.ii r 2, 0) := by simp only [m9, e30, z, r5, v, Int.toNat_natCast, decide_true, cond_true, cond_false]
    have n9t : n9 a b ng g L e s = true := by simp only [n9, h30, e30, z, r4, r5, v, z3, decide_true, cond_true, cond_false, Bool.and_self]
    exact ⟨by simp only [n3, n5_t, m5_t, hs, c1, c2, n7t, n9t, h10, p2, q, v1, v2, m12t, n16t, u1, u5, m7e, m9e, g1, g2, z, z2, n18t, hn, hed, hdd, decide_true, cond_true, cond_false, Bool.and_self, Bool.cond_self], by simp only [m3, m5_t, hs, c2, q, v2, m12t, u1, m7e, m9e, g2, z, z2, hb, hed, hdd, decide_true, cond_true, cond_false, Bool.cond_self]⟩
end
theorem seconds_law (a : ByteArray) (b : Int) (ng : Nat) (g : Dat) (L : Nat) (e : Dat) (s : Int) : n3 a b ng g L e s = true ∧ m3 a b ng g L e s = true := by
  cases hs : m6 a b ng g L e with
  | false => exact ⟨by simp only [n3, n5_t, m5_t, hs, cond_true, cond_false, Bool.and_true], by simp only [m3, m5_t, hs, cond_true, cond_false]⟩
  | true =>
  obtain ⟨b1, b2, b3⟩ := few_bnd hs
  obtain ⟨f1, f2⟩ := followed_ok (a := a) (b := b) (ng := ng) (g := g) (L := L) (e := e) (by omega) (by omega) (by omega) s
  obtain ⟨h10, hb⟩ := before_ok (a := a) (b := b) (ng := ng) (g := g) (L := L) (e := e) (by omega) (by omega) (by omega) s
  have p2 := (plan_ok a b ng g L e (by omega) (by omega) (by omega)).2.1
  have p5 := (plan_ok a b ng g L e (by omega) (by omega) (by omega)).2.2.2.2
  rcases f2 with ⟨h1, h2⟩ | ⟨P, h1, h2⟩ | ⟨P, h1, D, hD, h2⟩
  · have e10 : m10 a b ng g L e s = (({ data := #[] } : ByteArray), 0, 0, noDat, 0, noDat, (m11 a b ng g L e).2) := by
      rcases hb with ⟨_, k⟩ | ⟨P, _⟩ | ⟨P, _⟩ | ⟨P, _⟩
      · exact k
      all_goals exact absurd (by rw [p5 P]) h1
    have z := decide_eq_false h1
    exact seconds_bad hs h1 (by simp only [n7, f1, h2, z, cond_true, cond_false, Bool.and_self]) (by simp only [n9, f1, h2, z, cond_true, cond_false, Bool.and_self]) h10 (by simp only [m7, h2, z, cond_true, cond_false]) (by simp only [m9, h2, z, cond_true, cond_false]) e10 p2 (fun h => absurd h h1) (.inr ⟨h1, rfl⟩)
  · have q := p5 P
    have e10 : m10 a b ng g L e s = (({ data := #[] } : ByteArray), 0, 0, noDat, 0, noDat, 2) := by
      rcases hb with ⟨k, _⟩ | ⟨_, _, k⟩ | ⟨_, k, _⟩ | ⟨_, k, r, on, _⟩
      · rw [q] at k; exact absurd rfl k
      · exact k
      · exact absurd ⟨by omega, by have := P.nonneg (Nat.le_refl L); omega⟩ h1
      · exact absurd ⟨by omega, by have := on.2.2; have := P.le (show r + 1 ≤ L from on.1) (Nat.le_refl _); omega⟩ h1
    have z : decide ((2 : Int) = 0) = false := rfl
    obtain ⟨v1, v2⟩ := seconds_ok P
    exact seconds_bad hs (by decide) (by simp only [n7, f1, h2, z, cond_true, cond_false, Bool.and_self]) (by simp only [n9, f1, h2, z, cond_true, cond_false, Bool.and_self]) h10 (by simp only [m7, h2, z, cond_true, cond_false]) (by simp only [m9, h2, z, cond_true, cond_false]) e10 p2 (fun _ => v1) (.inl ⟨by rw [q], by rw [v2]; exact m51_no h1, rfl⟩)
  · have q := p5 P
    obtain ⟨_, rb⟩ := refbefore_ok P h1.1 h1.2
    have hL := P.legs; have hg := P.few
    rcases hb with ⟨k, _⟩ | ⟨_, k, _⟩ | ⟨_, k, e10⟩ | ⟨_, k, r, on, hk⟩
    · rw [q] at k; exact absurd rfl k
    · exact absurd h1 k
    · rcases rb with ⟨_, e18⟩ | ⟨k', _⟩
      · obtain ⟨s1, s2⟩ := plans_same (a := a) (b := b) (ng := ng) (g := g) (g' := g) (L := 0) (e := noDat) (e' := noDat) (by omega) (by omega) (fun _ _ => ⟨rfl, rfl⟩) (fun _ _ => ⟨rfl, rfl, rfl⟩)
        exact seconds_good hs P h1.1 h1.2 hD f1 h2 h10 (by rw [e10, e18]; exact s2) (by rw [e10, e18]; exact s1) (by rw [e10, e18])
      · omega
    · rcases rb with ⟨k', _⟩ | ⟨_, r', on', hk'⟩
      · omega
      · obtain rfl := on'.one P on
        have lr := P.leg0 on.1
        rcases hk with ⟨n1, e10⟩ | ⟨d, hd, e10⟩
        · rcases hk' with ⟨_, e18⟩ | ⟨x, o, hx, _⟩
          · obtain ⟨s1, s2⟩ := plans_same (a := (({ data := #[] } : ByteArray))) (b := 0) (ng := 0) (g := noDat) (g' := noDat) (L := 0) (e := noDat) (e' := noDat) (by omega) (by omega) (fun _ _ => ⟨rfl, rfl⟩) (fun _ _ => ⟨rfl, rfl, rfl⟩)
            exact seconds_good hs P h1.1 h1.2 hD f1 h2 h10 (by rw [e10, e18]; exact s2) (by rw [e10, e18]; exact s1) (by rw [e10, e18])
          · exact absurd ⟨x, hx⟩ n1
        · rcases hk' with ⟨n1, _⟩ | ⟨x, o, hx, hU, e18⟩
          · exact absurd ⟨d, hd⟩ n1
          · have dx : d = x := Int.eq_of_mul_eq_mul_right (show e.ii r' 0 ≠ 0 by omega) (hd.trans hx.symm)
            subst dx
            obtain ⟨U1, U2, U3, U4⟩ := hU
            obtain ⟨s1, s2⟩ := plans_same (a := a) (b := b) (ng := ng) (g := g) (g' := g) (L := r' + 1) (e := (e.upd r' 0 [SV.int IntKind.i64 (s - sm e r')]).upd r' 1 [SV.int IntKind.i64 d]) (e' := o) (by omega) (by have := on.1; omega) (fun _ _ => ⟨rfl, rfl⟩) (fun q hq => by
              obtain ⟨x0, x1, x2⟩ := upd1 e r' q (s - sm e r') d
              rw [x0, x1, x2]
              by_cases c : q = r'
              · subst c; rw [if_pos rfl, if_pos rfl, U2, U3, U4]; exact ⟨rfl, rfl, rfl⟩
              · obtain ⟨y0, y1, y2⟩ := U1 q (by omega)
                rw [if_neg c, if_neg c, y0, y1, y2]; exact ⟨rfl, rfl, rfl⟩)
            exact seconds_good hs P h1.1 h1.2 hD f1 h2 h10 (by rw [e10, e18]; exact s2) (by rw [e10, e18]; exact s1) (by rw [e10, e18])
end Go.Proofs.YtchhhoamnagbfaaGreatDoor

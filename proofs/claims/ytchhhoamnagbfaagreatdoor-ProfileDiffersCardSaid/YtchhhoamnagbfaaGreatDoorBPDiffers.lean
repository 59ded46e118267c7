/-
  The law of plans that differ: plain law. Conditions: none.
-/
import Derived.Test.YtchhhoamnagbfaaGreatDoorBFDiffers
import Derived.KernelRfl
namespace Go.Proofs.YtchhhoamnagbfaaGreatDoor
open Go Go.Sy
set_option linter.unusedVariables false
set_option linter.unusedSimpArgs false
set_option maxRecDepth 100000
attribute [local simp] brk
theorem wr {n : Int} (h0 : -9223372036854775808 ≤ n) (h1 : n ≤ 9223372036854775807) : IntKind.i64.wrap n = n := wrp h0 h1
theorem m51_iff {x a b : Int} : m51 x a b = true ↔ a ≤ x ∧ x ≤ b := by
  simp only [m51]
  by_cases h1 : a ≤ x <;> by_cases h2 : x ≤ b <;> simp [h1, h2]
theorem mulb {x y A B : Int} (hx0 : 0 ≤ x) (hx : x ≤ A) (hy0 : 0 ≤ y) (hy : y ≤ B) : 0 ≤ x * y ∧ x * y ≤ A * B :=
  ⟨Int.mul_nonneg hx0 hy0, Int.le_trans (Int.mul_le_mul_of_nonneg_right hx hy0) (Int.mul_le_mul_of_nonneg_left hy (by omega))⟩
structure Trk (n : Nat) (d : Dat) : Prop where
  two : 2 ≤ n
  few : n ≤ 200
  sec : ∀ i, i < n → 0 ≤ d.ii i 0 ∧ d.ii i 0 ≤ 1000001
  dep : ∀ i, i < n → 0 ≤ d.ii i 1 ∧ d.ii i 1 ≤ 30000
  up : ∀ i, i + 1 < n → d.ii i 0 < d.ii (i + 1) 0
theorem Trk.lt {n : Nat} {d : Dat} (T : Trk n d) : ∀ {i j : Nat}, i < j → j < n → d.ii i 0 < d.ii j 0
  | i, 0, h, _ => absurd h (Nat.not_lt_zero _)
  | i, j + 1, h, hj => by
    have a := T.up j hj
    by_cases e : i = j
    · subst e; exact a
    · have := T.lt (show i < j by omega) (by omega); omega
theorem Trk.le {n : Nat} {d : Dat} (T : Trk n d) {i j : Nat} (h : i ≤ j) (hj : j < n) : d.ii i 0 ≤ d.ii j 0 := by
  by_cases e : i = j
  · subst e; exact Int.le_refl _
  · exact Int.le_of_lt (T.lt (by omega) hj)
theorem leg_ok {n : Nat} {d : Dat} (T : Trk n d) {x : Int} (hx : x ≤ d.ii (n - 1) 0) : n35 n d x = true ∧ ∃ r : Nat, 1 ≤ r ∧ r < n ∧ x ≤ d.ii r 0 ∧ (∀ j, 1 ≤ j → j < r → d.ii j 0 < x) ∧ m35 n d x = (r : Int) := by
  have two := T.two; have few := T.few
  have o : o59c60_0 (n - 1) (d.shift 1) (datC [SV.int IntKind.i64 x]) ((n - 1 : Nat) : Int) 0 = some (first (fun i => cond (decide (x ≤ d.ii (1 + i) 0)) (some (true, (i : Int), default)) none) (false, default, ()) (n - 1) 0) := by
    refine loop_first (n := n - 1) (l := l59c60_0 (n - 1) (d.shift 1) (datC [SV.int IntKind.i64 x]) ((n - 1 : Nat) : Int)) (by omega) (fun f i hi => ?_) (fun f => by simp only [l59c60_0, cdn]; rfl) (n - 1) 0 _ (by omega) (by omega)
    have e : m60 ((d.shift 1).ii i 0) ((d.shift 1).ii i 1) (datC [SV.int IntKind.i64 x]) = decide (x ≤ d.ii (1 + i) 0) := by rw [shift_ii]; rfl
    simp only [l59c60_0, cdl hi, cdd hi, cond_true, Int.toNat_natCast, e]
    cases decide (x ≤ d.ii (1 + i) 0) <;> simp
  have e1 : (((n : Int)) - 1).toNat = n - 1 := by omega
  have z : decide ((0 : Int) ≤ (1 : Int) ∧ (1 : Int) ≤ (n : Int) ∧ (n : Int) ≤ (n : Int)) = true := decide_eq_true ⟨by omega, by omega, by omega⟩
  refine ⟨by simp only [n35, z, e1, n59c60, o]; rfl, ?_⟩
  rcases first_cases (g := fun i : Nat => cond (decide (x ≤ d.ii (1 + i) 0)) (some (true, (i : Int), (default : Unit))) none) (e := (false, default, ())) (n - 1) 0 with ⟨j, b, _, hj, h3, h4, h5⟩ | ⟨h1, _⟩
  · have hc : x ≤ d.ii (1 + j) 0 := by
      apply Decidable.byContradiction
      intro hh
      simp only [decide_eq_false hh, cond_false] at h3; cases h3
    simp only [decide_eq_true hc, cond_true] at h3
    refine ⟨1 + j, by omega, by omega, hc, fun k k1 k2 => ?_, ?_⟩
    · have := h4 (k - 1) (Nat.zero_le _) (by omega)
      rw [show 1 + (k - 1) = k by omega] at this
      apply Decidable.byContradiction
      intro hh
      simp only [decide_eq_true (show x ≤ d.ii k 0 by omega), cond_true] at this; cases this
    · simp only [m35, e1, m59c60, o, h5, ← Option.some.inj h3, Option.getD_some, cond_true]
      rw [wr (by omega) (by omega)]; omega
  · have := h1 (n - 2) (Nat.zero_le _) (by omega)
    rw [show 1 + (n - 2) = n - 1 by omega] at this
    simp only [decide_eq_true hx, cond_true] at this; cases this
def At (n : Nat) (d : Dat) (x num den : Int) : Prop :=
  (∃ k, k < n ∧ x = d.ii k 0 ∧ num = d.ii k 1 ∧ den = 1) ∨ ∃ r, r + 1 < n ∧ d.ii r 0 < x ∧ x < d.ii (r + 1) 0 ∧ num = d.ii r 1 * (d.ii (r + 1) 0 - x) + d.ii (r + 1) 1 * (x - d.ii r 0) ∧ den = d.ii (r + 1) 0 - d.ii r 0
theorem At.bnd {n : Nat} {d : Dat} (T : Trk n d) {x num den : Int} (h : At n d x num den) : (1 ≤ den ∧ den ≤ 1000001) ∧ 0 ≤ num ∧ num ≤ 30000 * den := by
  rcases h with ⟨k, hk, _, rfl, rfl⟩ | ⟨r, hr, h1, h2, rfl, rfl⟩
  · have := T.dep k hk; omega
  · have a := T.dep r (by omega); have b := T.dep (r + 1) hr
    have s1 := T.sec r (by omega); have s2 := T.sec (r + 1) hr
    have u := mulb a.1 a.2 (show 0 ≤ d.ii (r + 1) 0 - x by omega) (Int.le_refl _)
    have v := mulb b.1 b.2 (show 0 ≤ x - d.ii r 0 by omega) (Int.le_refl _)
    omega
theorem at_ok {n : Nat} {d : Dat} (T : Trk n d) {x : Int} (h0 : d.ii 0 0 ≤ x) (hx : x ≤ d.ii (n - 1) 0) : n31 n d x = true ∧ At n d x (m31 n d x).1 (m31 n d x).2 := by
  have two := T.two; have few := T.few
  obtain ⟨n36t, r, r1, rn, hr, hb, e⟩ := leg_ok T hx
  have z0 : decide ((r : Int) = 0) = false := decide_eq_false (by omega)
  have zz : decide ((0 : Int) ≤ (0 : Int) ∧ (0 : Int) < (n : Int)) = true := decide_eq_true ⟨by omega, by omega⟩
  have t1 : IntKind.i64.wrap ((r : Int) - 1) = (r : Int) - 1 := wr (by omega) (by omega)
  have t2 : ((r : Int) - 1).toNat = r - 1 := by omega
  have z1 : decide (0 ≤ (r : Int) - 1 ∧ (r : Int) - 1 < (n : Int)) = true := decide_eq_true ⟨by omega, by omega⟩
  have z2 : decide (0 ≤ (r : Int) ∧ (r : Int) < (n : Int)) = true := decide_eq_true ⟨by omega, by omega⟩
  constructor
  · simp only [n31, n36t, e, z0, zz, t1, z1, z2, cond_true, cond_false]
    cases decide (x = d.ii 0 0) <;> rfl
  · by_cases hx0 : x = d.ii 0 0
    · have : m31 n d x = (d.ii 0 1, 1) := by simp only [m31, e, z0, decide_eq_true hx0, cond_true, cond_false]
      rw [this]
      exact .inl ⟨0, by omega, hx0, rfl, rfl⟩
    · by_cases hxr : x = d.ii r 0
      · have : m31 n d x = (d.ii r 1, 1) := by simp only [m31, e, z0, decide_eq_false hx0, Int.toNat_natCast, decide_eq_true hxr, cond_true, cond_false]
        rw [this]
        exact .inl ⟨r, rn, hxr, rfl, rfl⟩
      · have s0 : d.ii (r - 1) 0 < x := by
          by_cases h : r = 1
          · subst h
            have : (1 : Nat) - 1 = 0 := rfl
            rw [this]; omega
          · exact hb (r - 1) (by omega) (by omega)
        have a := T.dep (r - 1) (by omega); have b := T.dep r rn
        have q1 := T.sec (r - 1) (by omega); have q2 := T.sec r rn
        have w1 : IntKind.i64.wrap (d.ii r 0 - x) = d.ii r 0 - x := wr (by omega) (by omega)
        have w2 : IntKind.i64.wrap (x - d.ii (r - 1) 0) = x - d.ii (r - 1) 0 := wr (by omega) (by omega)
        have w3 : IntKind.i64.wrap (d.ii r 0 - d.ii (r - 1) 0) = d.ii r 0 - d.ii (r - 1) 0 := wr (by omega) (by omega)
        have p1 := mulb a.1 a.2 (show 0 ≤ d.ii r 0 - x by omega) (show d.ii r 0 - x ≤ 1000001 by omega)
        have p2 := mulb b.1 b.2 (show 0 ≤ x - d.ii (r - 1) 0 by omega) (show x - d.ii (r - 1) 0 ≤ 1000001 by omega)
        have : m31 n d x = (d.ii (r - 1) 1 * (d.ii r 0 - x) + d.ii r 1 * (x - d.ii (r - 1) 0), d.ii r 0 - d.ii (r - 1) 0) := by
          simp only [m31, e, z0, decide_eq_false hx0, Int.toNat_natCast, decide_eq_false hxr, t1, t2, w1, w2, w3, cond_true, cond_false]
          rw [wr (n := d.ii (r - 1) 1 * (d.ii r 0 - x)) (by omega) (by omega), wr (n := d.ii r 1 * (x - d.ii (r - 1) 0)) (by omega) (by omega), wr (by omega) (by omega)]
        rw [this]
        refine .inr ⟨r - 1, by omega, s0, ?_, ?_, ?_⟩ <;> rw [show r - 1 + 1 = r by omega]
        omega
theorem At.at_point {n : Nat} {d : Dat} (T : Trk n d) {k : Nat} (hk : k < n) {num den : Int} (h : At n d (d.ii k 0) num den) : num = d.ii k 1 ∧ den = 1 := by
  rcases h with ⟨j, hj, e, h1, h2⟩ | ⟨r, hr, h1, h2, _⟩
  · have : j = k := by
      rcases Nat.lt_trichotomy j k with h | h | h
      · have := T.lt h hk; omega
      · exact h
      · have := T.lt h hj; omega
    subst this; exact ⟨h1, h2⟩
  · exfalso
    by_cases h : k ≤ r
    · have := T.le h (by omega); omega
    · have := T.le (show r + 1 ≤ k by omega) hk; omega
end Go.Proofs.YtchhhoamnagbfaaGreatDoor
namespace Go.Proofs.YtchhhoamnagbfaaGreatDoor
open Go Go.Sy
theorem n5_t : n5 = true := by kernel_rfl
theorem m5_t : m5 = true := by kernel_rfl
end Go.Proofs.YtchhhoamnagbfaaGreatDoor
namespace Go.Proofs.YtchhhoamnagbfaaGreatDoor
open Go Go.Sy
set_option linter.unusedVariables false
set_option linter.unusedSimpArgs false
set_option maxRecDepth 100000
theorem app_nil0 (e d : Dat) : e.app 0 d = d := by
  have h : ∀ q : Nat, Nat.blt q 0 = false := fun q => rfl
  cases d
  simp only [Dat.app, h, cond_false, Nat.sub_zero]
def RAt (n : Nat) (d : Dat) (x num den : Int) : Prop := ∃ r, 1 ≤ r ∧ r < n ∧ d.ii (r - 1) 0 ≤ x ∧ x ≤ d.ii r 0 ∧ num = d.ii (r - 1) 1 * (d.ii r 0 - d.ii (r - 1) 0) + (d.ii r 1 - d.ii (r - 1) 1) * (x - d.ii (r - 1) 0) ∧ den = d.ii r 0 - d.ii (r - 1) 0
theorem ref_run {n : Nat} {d : Dat} (T : Trk n d) {x : Int} (hx : x ≤ d.ii (n - 1) 0) : ∀ (k i f : Nat), i + k = n → k < f → 1 ≤ i → 0 < k → d.ii (i - 1) 0 ≤ x → ∃ num den, l40_0 n d x f (i : Int) = some (true, (num, den), default) ∧ RAt n d x num den
  | 0, i, f, _, _, _, h, _ => absurd h (Nat.lt_irrefl _)
  | k + 1, i, f, hi, hf, h1, _, h0 => by
    obtain ⟨f, rfl⟩ : ∃ f', f = f' + 1 := ⟨f - 1, by omega⟩
    have few := T.few
    have hlt : i < n := by omega
    have t1 : IntKind.i64.wrap ((i : Int) - 1) = (i : Int) - 1 := wr (by omega) (by omega)
    have t2 : ((i : Int) - 1).toNat = i - 1 := by omega
    have z1 : decide (0 ≤ (i : Int) - 1 ∧ (i : Int) - 1 < (n : Int)) = true := decide_eq_true ⟨by omega, by omega⟩
    by_cases hh : x ≤ d.ii i 0
    · have a := T.dep (i - 1) (by omega); have b := T.dep i hlt
      have q1 := T.sec (i - 1) (by omega); have q2 := T.sec i hlt
      have up := T.lt (show i - 1 < i by omega) hlt
      have w1 : IntKind.i64.wrap (d.ii i 0 - d.ii (i - 1) 0) = d.ii i 0 - d.ii (i - 1) 0 := wr (by omega) (by omega)
      have w2 : IntKind.i64.wrap (d.ii i 1 - d.ii (i - 1) 1) = d.ii i 1 - d.ii (i - 1) 1 := wr (by omega) (by omega)
      have w3 : IntKind.i64.wrap (x - d.ii (i - 1) 0) = x - d.ii (i - 1) 0 := wr (by omega) (by omega)
      have p1 := mulb a.1 a.2 (show 0 ≤ d.ii i 0 - d.ii (i - 1) 0 by omega) (show d.ii i 0 - d.ii (i - 1) 0 ≤ 1000001 by omega)
      have p2 := mulb b.1 b.2 (show 0 ≤ x - d.ii (i - 1) 0 by omega) (show x - d.ii (i - 1) 0 ≤ 1000001 by omega)
      have p3 := mulb a.1 a.2 (show 0 ≤ x - d.ii (i - 1) 0 by omega) (show x - d.ii (i - 1) 0 ≤ 1000001 by omega)
      have e : (d.ii i 1 - d.ii (i - 1) 1) * (x - d.ii (i - 1) 0) = d.ii i 1 * (x - d.ii (i - 1) 0) - d.ii (i - 1) 1 * (x - d.ii (i - 1) 0) := Int.sub_mul _ _ _
      refine ⟨_, _, ?_, i, h1, hlt, h0, hh, rfl, rfl⟩
      simp only [l40_0, cdl hlt, cdd hlt, t1, t2, z1, w1, w2, w3, Int.toNat_natCast, decide_eq_true hh, cond_true]
      rw [wr (n := d.ii (i - 1) 1 * (d.ii i 0 - d.ii (i - 1) 0)) (by omega) (by omega), wr (n := (d.ii i 1 - d.ii (i - 1) 1) * (x - d.ii (i - 1) 0)) (by omega) (by omega), wr (by omega) (by omega)]
    · have hk : 0 < k := by
        apply Decidable.byContradiction
        intro hk
        have : i = n - 1 := by omega
        subst this
        exact hh hx
      obtain ⟨num, den, g1, g2⟩ := ref_run T hx k (i + 1) f (by omega) (by omega) (by omega) hk (by rw [Nat.add_sub_cancel]; omega)
      refine ⟨num, den, ?_, g2⟩
      simp only [l40_0, cdl hlt, cdd hlt, Int.toNat_natCast, decide_eq_false hh, wrS hlt (by omega), cond_true, cond_false]
      exact g1
theorem ref_at {n : Nat} {d : Dat} (T : Trk n d) {x : Int} (h0 : d.ii 0 0 ≤ x) (hx : x ≤ d.ii (n - 1) 0) : n40 n d x = true ∧ RAt n d x (m40 n d x).1 (m40 n d x).2 := by
  have two := T.two; have few := T.few
  have h := fun F (hF : n < F) => ref_run T hx (n - 1) 1 F (by omega) (by omega) (by decide) (by omega) h0
  obtain ⟨num, den, o, g⟩ : ∃ num den, o40_0 n d x 1 = some (true, (num, den), default) ∧ RAt n d x num den := by
    unfold o40_0
    generalize x.toNat = y1
    exact h _ (by omega)
  exact ⟨by simp only [n40, o]; rfl, by simp only [m40, o, Option.getD_some, cond_true]; exact g⟩
theorem at_ref {n : Nat} {d : Dat} (T : Trk n d) {x num den num' den' : Int} (h : At n d x num den) (h' : RAt n d x num' den') : num * den' = num' * den ∧ (1 ≤ den' ∧ den' ≤ 1000001) := by
  obtain ⟨r, r1, rn, s1, s2, rfl, rfl⟩ := h'
  have up := T.lt (show r - 1 < r by omega) rn
  have q1 := T.sec (r - 1) (by omega); have q2 := T.sec r rn
  refine ⟨?_, by omega⟩
  rcases h with ⟨k, hk, rfl, rfl, rfl⟩ | ⟨q, hq, k1, k2, rfl, rfl⟩
  · have hkr : k = r - 1 ∨ k = r := by
      rcases Nat.lt_trichotomy k (r - 1) with h | h | h
      · have := T.lt h (by omega); omega
      · exact .inl h
      · by_cases h2 : k ≤ r
        · exact .inr (by omega)
        · have := T.lt (show r < k by omega) hk; omega
    rcases hkr with rfl | rfl
    · rw [Int.sub_self, Int.mul_zero, Int.add_zero, Int.mul_one]
    · rw [Int.mul_one, Int.sub_mul]; omega
  · have hqr : q = r - 1 := by
      rcases Nat.lt_trichotomy q (r - 1) with h | h | h
      · have := T.le (show q + 1 ≤ r - 1 by omega) (by omega); omega
      · exact h
      · have := T.le (show r ≤ q by omega) (by omega); omega
    subst hqr
    rw [show r - 1 + 1 = r by omega]
    congr 1
    rw [Int.sub_mul, Int.mul_sub, Int.mul_sub, Int.mul_sub, Int.mul_sub]
    omega
theorem RAt.bnd {n : Nat} {d : Dat} (T : Trk n d) {x num den : Int} (h : RAt n d x num den) : (1 ≤ den ∧ den ≤ 1000001) ∧ 0 ≤ num ∧ num ≤ 30000030000 := by
  obtain ⟨r, r1, rn, s1, s2, rfl, rfl⟩ := h
  have up := T.lt (show r - 1 < r by omega) rn
  have q1 := T.sec (r - 1) (by omega); have q2 := T.sec r rn
  have a := T.dep (r - 1) (by omega); have b := T.dep r rn
  have p1 := mulb a.1 a.2 (show 0 ≤ d.ii r 0 - x by omega) (Int.le_refl _)
  have p2 := mulb b.1 b.2 (show 0 ≤ x - d.ii (r - 1) 0 by omega) (Int.le_refl _)
  have e : d.ii (r - 1) 1 * (d.ii r 0 - d.ii (r - 1) 0) + (d.ii r 1 - d.ii (r - 1) 1) * (x - d.ii (r - 1) 0) = d.ii (r - 1) 1 * (d.ii r 0 - x) + d.ii r 1 * (x - d.ii (r - 1) 0) := by
    rw [Int.sub_mul, Int.mul_sub, Int.mul_sub, Int.mul_sub, Int.mul_sub]; omega
  rw [e]
  omega
end Go.Proofs.YtchhhoamnagbfaaGreatDoor
namespace Go.Proofs.YtchhhoamnagbfaaGreatDoor
open Go Go.Sy
set_option linter.unusedVariables false
set_option linter.unusedSimpArgs false
set_option maxRecDepth 100000
attribute [local simp] brk
noncomputable def badC (s : ByteArray) (i : Nat) : Option (Bool × Bool × Unit) :=
  cond (bif (bif (bif (bif decide (97 ≤ byteAt s i) then decide (byteAt s i ≤ 122) else false) then true else (bif decide (65 ≤ byteAt s i) then decide (byteAt s i ≤ 90) else false)) then false else true) then (bif decide (i = 0) then true else (bif (bif decide (byteAt s i = 45) then false else true) then (bif decide (byteAt s i < 48) then true else decide (57 < byteAt s i)) else false)) else false) (some (true, false, default)) none
theorem l38_all (s : ByteArray) (hs : s.size ≤ 9223372036854775807) : o38_0 s 0 = some (first (badC s) (false, default, ()) s.size 0) :=
  loop_first (l := l38_0 s) hs (fun f i hi => by
    have e : decide ((i : Int) = 0) = decide (i = 0) := by by_cases h : i = 0 <;> simp [h]
    simp only [l38_0, cdl hi, cdd hi, cond_true, Int.toNat_natCast, e, badC]
    generalize (bif bif bif bif decide (97 ≤ byteAt s i) then decide (byteAt s i ≤ 122) else false then true else bif decide (65 ≤ byteAt s i) then decide (byteAt s i ≤ 90) else false then false else true then bif decide (i = 0) then true else bif bif decide (byteAt s i = 45) then false else true then bif decide (byteAt s i < 48) then true else decide (57 < byteAt s i) else false else false) = c
    cases c <;> rfl) (fun f => by simp only [l38_0, cdn]; rfl) s.size 0 _ (by omega) (by omega)
theorem l75_all (s : ByteArray) (hs : s.size ≤ 9223372036854775807) : o75_0 s (s.size : Int) 0 = some (first (badC s) (false, default, ()) s.size 0) :=
  loop_first (l := l75_0 s (s.size : Int)) hs (fun f i hi => by
    have e : decide ((i : Int) = 0) = decide (i = 0) := by by_cases h : i = 0 <;> simp [h]
    simp only [l75_0, cdl hi, cdd hi, cond_true, Int.toNat_natCast, e, badC, Bool.cond_self]
    generalize decide (97 ≤ byteAt s i) = c1
    generalize decide (byteAt s i ≤ 122) = c2
    generalize decide (65 ≤ byteAt s i) = c3
    generalize decide (byteAt s i ≤ 90) = c4
    generalize decide (i = 0) = c5
    generalize decide (byteAt s i = 45) = c6
    generalize decide (byteAt s i < 48) = c7
    generalize decide (57 < byteAt s i) = c8
    cases c1 <;> cases c2 <;> cases c3 <;> cases c4 <;> cases c5 <;> cases c6 <;> cases c7 <;> cases c8 <;> rfl) (fun f => by simp only [l75_0, cdn]; rfl) s.size 0 _ (by omega) (by omega)
theorem names (s : ByteArray) (hs : s.size ≤ 9223372036854775807) : n75 s = true ∧ n38 s = true ∧ m75 s = m38 s := by
  simp only [n75, n38, m75, m38, l75_all s hs, l38_all s hs, Option.getD_some]
  have hb : (first (badC s) (false, default, ()) s.size 0).1 = true → (first (badC s) (false, default, ()) s.size 0).2.1 = false := by
    rcases first_cases (g := badC s) (e := (false, (default : Bool), ())) s.size 0 with ⟨j, b, _, _, hg, _, hb⟩ | ⟨_, hb⟩
    · intro _
      have : first (badC s) (false, default, ()) s.size 0 = b := hb
      rw [this]
      unfold badC at hg
      generalize (bif bif bif bif decide (97 ≤ byteAt s j) then decide (byteAt s j ≤ 122) else false then true else bif decide (65 ≤ byteAt s j) then decide (byteAt s j ≤ 90) else false then false else true then bif decide (j = 0) then true else bif bif decide (byteAt s j = 45) then false else true then bif decide (byteAt s j < 48) then true else decide (57 < byteAt s j) else false else false) = c at hg
      cases c <;> simp at hg
      rw [← hg]
    · intro h
      have : first (badC s) (false, default, ()) s.size 0 = (false, default, ()) := hb
      rw [this] at h
      cases h
  have e0 : decide (s = { data := #[] }) = decide ((s.size : Int) < 1) := by
    apply decide_eq_decide.2
    constructor
    · intro h; subst h; decide
    · intro h
      have : s.size = 0 := by omega
      obtain ⟨d⟩ := s
      have : d.size = 0 := this
      rw [Array.size_eq_zero_iff] at this
      rw [this]
  rw [e0]
  generalize first (badC s) (false, default, ()) s.size 0 = r at *
  obtain ⟨r1, r2, r3⟩ := r
  simp only at hb ⊢
  refine ⟨rfl, ?_, ?_⟩
  · cases decide ((s.size : Int) < 1) <;> cases decide (12 < (s.size : Int)) <;> rfl
  · have e1 : decide ((s.size : Int) ≤ 12) = !decide (12 < (s.size : Int)) := by
      by_cases h : 12 < (s.size : Int)
      · have : ¬ (s.size : Int) ≤ 12 := by omega
        simp [h, this]
      · have : (s.size : Int) ≤ 12 := by omega
        simp [h, this]
    rw [e1]
    cases r1
    · cases decide ((s.size : Int) < 1) <;> cases decide (12 < (s.size : Int)) <;> rfl
    · have := hb rfl
      subst this
      cases decide ((s.size : Int) < 1) <;> cases decide (12 < (s.size : Int)) <;> rfl
theorem gas_ok (a b : Int) : m76 a b = m39 a b ∧ n76 a b = true := by
  have h : ∀ x y : Int, o88_0 2 (datS [SV.int IntKind.i64 x, SV.int IntKind.i64 y] 1) (↑(2 : Nat) : Int) 0 = cond (bif decide (x = 0) then false else true) (some (true, x, default)) (cond (bif decide (y = 0) then false else true) (some (true, y, default)) (some (false, default, ()))) := fun x y => by kernel_rfl
  have e : ∀ x, m89 x 0 1000 = cond (m12 x 0 1000) 0 2 := fun x => by
    have : m98 x 0 1000 = m12 x 0 1000 := rfl
    simp only [m89, this]; cases m12 x 0 1000 <;> rfl
  constructor
  · simp only [m76, m88, h, m39, e]
    cases m12 a 0 1000 <;> cases m12 b 0 1000 <;> simp
  · simp only [n76, n88, h, e]
    cases m12 a 0 1000 <;> cases m12 b 0 1000 <;> simp
noncomputable def badGas (g : Dat) (i : Nat) : Option (Bool × (Int × Int) × Unit) := cond (bif decide (m39 (g.ii i 0) (g.ii i 1) = 0) then false else true) (some (true, (0, m39 (g.ii i 0) (g.ii i 1)), default)) none
theorem l63g_all {ng : Nat} (h : ng ≤ 9223372036854775807) (a : ByteArray) (b : Int) (g : Dat) (L : Nat) (e : Dat) : o63_1 ng g (ng : Int) a b g L e 0 = some (first (badGas g) (false, default, ()) ng 0) :=
  loop_first (l := l63_1 ng g (ng : Int) a b g L e) h (fun f i hi => by
    simp only [l63_1, cdl hi, cdd hi, cond_true, Int.toNat_natCast, badGas, (gas_ok _ _).1, (gas_ok _ _).2]
    cases decide (m39 (g.ii i 0) (g.ii i 1) = 0) <;> rfl) (fun f => by simp only [l63_1, cdn]; rfl) ng 0 _ (by omega) (by omega)
theorem l11g_all {ng : Nat} (h : ng ≤ 9223372036854775807) (a : ByteArray) (b : Int) (g : Dat) (L : Nat) (e : Dat) : o11_0 a b ng g L e 0 = some (first (badGas g) (false, default, ()) ng 0) :=
  loop_first (l := l11_0 a b ng g L e) h (fun f i hi => by
    simp only [l11_0, cdl hi, cdd hi, cond_true, Int.toNat_natCast, badGas]
    cases decide (m39 (g.ii i 0) (g.ii i 1) = 0) <;> rfl) (fun f => by simp only [l11_0, cdn]; rfl) ng 0 _ (by omega) (by omega)
theorem badGas_none {g : Dat} {i : Nat} : badGas g i = none ↔ m39 (g.ii i 0) (g.ii i 1) = 0 := by
  simp only [badGas]
  by_cases h : m39 (g.ii i 0) (g.ii i 1) = 0 <;> simp [h]
def sm (e : Dat) : Nat → Int
  | 0 => 0
  | i + 1 => sm e i + e.ii i 0
def dp (e : Dat) : Nat → Int
  | 0 => 0
  | i + 1 => e.ii i 1
def LegOk (ng : Nat) (e : Dat) (j : Nat) : Prop := (1 ≤ e.ii j 0 ∧ e.ii j 0 ≤ 1000000) ∧ (0 ≤ e.ii j 1 ∧ e.ii j 1 ≤ 30000) ∧ (0 ≤ e.ii j 2 ∧ e.ii j 2 < (ng : Int))
theorem no_or {x y : Bool} : (bif (bif x then false else true) then true else (bif y then false else true)) = false ↔ x = true ∧ y = true := by cases x <;> cases y <;> simp
theorem no_not {x : Bool} : (bif x then false else true) = false ↔ x = true := by cases x <;> simp
theorem leg_run {ng : Nat} (hng : ng ≤ 9223372036854775807) {L : Nat} (hL : L ≤ 9223372036854775807) (a : ByteArray) (b : Int) (g e : Dat) : ∀ (k i f f' : Nat) (s : Int), i + k = L → k < f → k < f' →
    ∃ r : Bool × (Int × Int) × Unit, l63_3 L e (L : Int) a b ng g e f s (i : Int) = some r ∧ l11_2 a b ng g L e f' s (i : Int) = some r ∧ (r.1 = true → r.2.1.2 ≠ 0) ∧
      (s = sm e i → 0 ≤ s ∧ s ≤ 1000000 → (r.1 = false ↔ ∀ j, i ≤ j → j < L → LegOk ng e j ∧ sm e (j + 1) ≤ 1000000))
  | 0, i, f, f', s, hi, hf, hf' => by
    obtain ⟨f, rfl⟩ : ∃ f0, f = f0 + 1 := ⟨f - 1, by omega⟩
    obtain ⟨f', rfl⟩ : ∃ f0, f' = f0 + 1 := ⟨f' - 1, by omega⟩
    obtain rfl : i = L := by omega
    refine ⟨(false, default, ()), by simp only [l63_3, cdn]; rfl, by simp only [l11_2, cdn]; rfl, fun h => (by cases h), fun _ _ => ⟨fun _ j h1 h2 => by omega, fun _ => rfl⟩⟩
  | k + 1, i, f, f', s, hi, hf, hf' => by
    obtain ⟨f, rfl⟩ : ∃ f0, f = f0 + 1 := ⟨f - 1, by omega⟩
    obtain ⟨f', rfl⟩ : ∃ f0, f' = f0 + 1 := ⟨f' - 1, by omega⟩
    have hlt : i < L := by omega
    have w : IntKind.i64.wrap ((ng : Int) - 1) = (ng : Int) - 1 := wr (by omega) (by omega)
    have h16 : ∀ x y z, m12 x y z = m51 x y z := fun _ _ _ => rfl
    cases h1 : (bif (bif m51 (e.ii i 0) 1 1000000 then false else true) then true else (bif m51 (e.ii i 1) 0 30000 then false else true)) with
    | true =>
      refine ⟨(true, ((i : Int), 2), default), by simp only [l63_3, cdl hlt, cdd hlt, Int.toNat_natCast, h1, cond_true], by simp only [l11_2, cdl hlt, cdd hlt, Int.toNat_natCast, h16, h1, cond_true], fun _ => (by simp), fun _ _ => ⟨fun h => (by cases h), fun h => ?_⟩⟩
      obtain ⟨⟨A, B, _⟩, _⟩ := h i (Nat.le_refl _) hlt
      rw [no_or.2 ⟨m51_iff.2 A, m51_iff.2 B⟩] at h1; cases h1
    | false =>
      obtain ⟨p1, p2⟩ := no_or.1 h1
      have p1 := m51_iff.1 p1; have p2 := m51_iff.1 p2
      cases h2 : (bif m51 (e.ii i 2) 0 ((ng : Int) - 1) then false else true) with
      | true =>
        refine ⟨(true, ((i : Int), 6), default), by simp only [l63_3, cdl hlt, cdd hlt, Int.toNat_natCast, h1, w, h2, cond_true, cond_false], by simp only [l11_2, cdl hlt, cdd hlt, Int.toNat_natCast, h16, h1, w, h2, cond_true, cond_false], fun _ => (by simp), fun _ _ => ⟨fun h => (by cases h), fun h => ?_⟩⟩
        obtain ⟨⟨_, _, A⟩, _⟩ := h i (Nat.le_refl _) hlt
        rw [no_not.2 (m51_iff.2 ⟨A.1, by omega⟩)] at h2; cases h2
      | false =>
        have p3 := m51_iff.1 (no_not.1 h2)
        by_cases h3 : 1000000 < IntKind.i64.wrap (s + e.ii i 0)
        · refine ⟨(true, ((i : Int), 8), default), by simp only [l63_3, cdl hlt, cdd hlt, Int.toNat_natCast, h1, w, h2, decide_eq_true h3, cond_true, cond_false], by simp only [l11_2, cdl hlt, cdd hlt, Int.toNat_natCast, h16, h1, w, h2, decide_eq_true h3, cond_true, cond_false], fun _ => (by simp), fun hs hb => ⟨fun h => (by cases h), fun h => ?_⟩⟩
          have := (h i (Nat.le_refl _) hlt).2
          rw [wr (by omega) (by omega), hs] at h3
          simp only [sm] at this; omega
        · obtain ⟨r, g1, g2, g3, g4⟩ := leg_run hng hL a b g e k (i + 1) f f' (IntKind.i64.wrap (s + e.ii i 0)) (by omega) (by omega) (by omega)
          refine ⟨r, by simp only [l63_3, cdl hlt, cdd hlt, Int.toNat_natCast, h1, w, h2, decide_eq_false h3, cond_true, cond_false, wrS hlt hL]; exact g1, by simp only [l11_2, cdl hlt, cdd hlt, Int.toNat_natCast, h16, h1, w, h2, decide_eq_false h3, cond_true, cond_false, wrS hlt hL]; exact g2, g3, fun hs hb => ?_⟩
          have ws : IntKind.i64.wrap (s + e.ii i 0) = s + e.ii i 0 := wr (by omega) (by omega)
          rw [ws] at h3 g4
          refine (g4 (by rw [hs]; rfl) ⟨by omega, by omega⟩).trans ⟨fun h j a c => ?_, fun h j a c => h j (by omega) c⟩
          by_cases hj : j = i
          · subst hj
            exact ⟨⟨p1, p2, p3.1, by omega⟩, by simp only [sm]; omega⟩
          · exact h j (by omega) c
structure Pln (a : ByteArray) (b : Int) (ng : Nat) (g : Dat) (L : Nat) (e : Dat) : Prop where
  name : m38 a = true
  air : 400 ≤ b ∧ b ≤ 1100
  some : 1 ≤ ng
  few : ng ≤ 8
  gas : ∀ i, i < ng → m39 (g.ii i 0) (g.ii i 1) = 0
  legs : L ≤ 60
  leg : ∀ j, j < L → LegOk ng e j
  sum : ∀ j, j ≤ L → sm e j ≤ 1000000
theorem plan_ok (a : ByteArray) (b : Int) (ng : Nat) (g : Dat) (L : Nat) (e : Dat) (ha : a.size ≤ 9223372036854775807) (hg : ng ≤ 9223372036854775807) (hL : L ≤ 9223372036854775807) :
    n63 a b ng g L e = true ∧ n11 a b ng g L e = true ∧ m63 a b ng g L e = m11 a b ng g L e ∧ ((m11 a b ng g L e).2 = 0 → Pln a b ng g L e) ∧ (Pln a b ng g L e → m11 a b ng g L e = (0, 0)) := by
  obtain ⟨a1, a2, a3⟩ := names a ha
  have h16 : ∀ x y z, m12 x y z = m51 x y z := fun _ _ _ => rfl
  obtain ⟨r, r1, r2, r3, r4⟩ : ∃ r : Bool × (Int × Int) × Unit, o63_3 L e (L : Int) a b ng g e 0 0 = some r ∧ o11_2 a b ng g L e 0 0 = some r ∧ (r.1 = true → r.2.1.2 ≠ 0) ∧ (r.1 = false ↔ ∀ j, j < L → LegOk ng e j ∧ sm e (j + 1) ≤ 1000000) := by
    obtain ⟨r, g1, g2, g3, g4⟩ := leg_run hg hL a b g e L 0 (Int.toNat 0 + L + (L : Int).toNat + Int.toNat 0 + a.size + b.toNat + ng + 8) (Int.toNat 0 + Int.toNat 0 + a.size + b.toNat + ng + L + 8) 0 (by omega) (by omega) (by omega)
    exact ⟨r, g1, g2, g3, (g4 rfl ⟨by decide, by decide⟩).trans ⟨fun h j c => h j (Nat.zero_le _) c, fun h j _ c => h j c⟩⟩
  simp only [n63, n11, m63, m11, a1, a2, a3, h16, l63g_all hg, l11g_all hg, r1, r2, Option.getD_some, Option.isSome_some, Bool.true_and, Bool.and_true]
  cases h1 : m38 a with
  | false => exact ⟨by simp only [cond_true, cond_false], by simp only [cond_true, cond_false], by trivial, fun h => absurd h (by simp only [cond_true, cond_false]; decide), fun P => by rw [P.name] at h1; cases h1⟩
  | true =>
  simp only [cond_true, cond_false]
  cases h2 : m51 b 400 1100 with
  | false => exact ⟨by simp only [cond_true, cond_false], by simp only [cond_true, cond_false], by trivial, fun h => absurd h (by simp only [cond_true, cond_false]; decide), fun P => by rw [m51_iff.2 P.air] at h2; cases h2⟩
  | true =>
  simp only [cond_true, cond_false]
  by_cases h3 : (ng : Int) = 0
  · simp only [decide_eq_true h3, cond_true]
    exact ⟨trivial, trivial, by trivial, fun h => absurd h (by decide), fun P => absurd P.some (by omega)⟩
  simp only [decide_eq_false h3, cond_false]
  by_cases h4 : 8 < (ng : Int)
  · simp only [decide_eq_true h4, cond_true]
    exact ⟨trivial, trivial, by trivial, fun h => absurd h (by decide), fun P => absurd P.few (by omega)⟩
  simp only [decide_eq_false h4, cond_false]
  have hc := first_cases (g := badGas g) (e := (false, default, ())) ng 0
  cases h5 : (first (badGas g) (false, default, ()) ng 0).1 with
  | true =>
    rcases hc with ⟨j, c, _, hj, hg', _, hc⟩ | ⟨_, hc⟩
    · simp only [cond_true]
      refine ⟨trivial, trivial, by trivial, fun h => ?_, fun P => ?_⟩
      · exfalso
        rw [hc] at h
        simp only [badGas] at hg'
        by_cases hz : m39 (g.ii j 0) (g.ii j 1) = 0
        · rw [decide_eq_true hz] at hg'; cases hg'
        · rw [decide_eq_false hz] at hg'; simp only [cond_true, cond_false, Option.some.injEq] at hg'
          rw [← hg'] at h; exact hz h
      · rw [badGas_none.2 (P.gas j (by omega))] at hg'; cases hg'
    · rw [hc] at h5; cases h5
  | false =>
  have hgas : ∀ i, i < ng → m39 (g.ii i 0) (g.ii i 1) = 0 := by
    rcases hc with ⟨j, c, _, hj, hg', _, hc⟩ | ⟨hn, _⟩
    · exfalso
      simp only [badGas] at hg'
      by_cases hz : m39 (g.ii j 0) (g.ii j 1) = 0
      · rw [decide_eq_true hz] at hg'; cases hg'
      · rw [decide_eq_false hz] at hg'; simp only [cond_true, cond_false, Option.some.injEq] at hg'
        rw [hc, ← hg'] at h5; cases h5
    · exact fun i hi => badGas_none.1 (hn i (Nat.zero_le _) (by omega))
  simp only [cond_false]
  by_cases h6 : (60 : Int) < (L : Int)
  · simp only [decide_eq_true h6, cond_true]
    exact ⟨trivial, trivial, by trivial, fun h => absurd h (by decide), fun P => absurd P.legs (by omega)⟩
  simp only [decide_eq_false h6, cond_false]
  refine ⟨trivial, trivial, by trivial, fun h => ?_, fun P => ?_⟩
  · cases h7 : r.1 with
    | true => rw [h7] at h; exact absurd h (r3 h7)
    | false =>
      have := r4.1 h7
      refine ⟨rfl.trans h1, m51_iff.1 h2, by omega, by omega, hgas, by omega, fun j hj => (this j hj).1, fun j hj => ?_⟩
      cases j with
      | zero => simp only [sm]; decide
      | succ j => exact (this j (by omega)).2
  · have h7 : r.1 = false := r4.2 fun j hj => ⟨P.leg j hj, P.sum (j + 1) (by omega)⟩
    rw [h7]; rfl
theorem app_lt {d e : Dat} {n q c : Nat} (h : q < n) : (d.app n e).ii q c = d.ii q c := by
  simp only [Dat.app, blt_t h, cond_true]
theorem app_eq {d e : Dat} {n c : Nat} : (d.app n e).ii n c = e.ii 0 c := by
  have : Nat.blt n n = false := Bool.eq_false_iff.2 fun h => Nat.lt_irrefl _ (Nat.le_of_ble_eq_true h)
  simp only [Dat.app, this, cond_false, Nat.sub_self]
section
variable {a : ByteArray} {b : Int} {ng : Nat} {g : Dat} {L : Nat} {e : Dat}
theorem Pln.leg0 (P : Pln a b ng g L e) {j : Nat} (h : j < L) : 1 ≤ e.ii j 0 ∧ e.ii j 0 ≤ 1000000 := (P.leg j h).1
theorem Pln.nonneg (P : Pln a b ng g L e) : ∀ {j : Nat}, j ≤ L → 0 ≤ sm e j
  | 0, _ => Int.le_refl _
  | j + 1, h => by
    have := P.nonneg (j := j) (by omega); have := P.leg0 (show j < L by omega)
    simp only [sm]; omega
theorem Pln.dep (P : Pln a b ng g L e) {j : Nat} (h : j ≤ L) : 0 ≤ dp e j ∧ dp e j ≤ 30000 := by
  cases j with
  | zero => simp only [dp]; decide
  | succ j => exact (P.leg j (by omega)).2.1
def PtsOf (e : Dat) (n : Nat) (D : Dat) : Prop := ∀ q, q < n → D.ii q 0 = sm e q ∧ D.ii q 1 = dp e q
theorem ptsOf_one (e : Dat) : PtsOf e 1 (datS [SV.int IntKind.i64 0, SV.int IntKind.i64 0] 2) := fun q hq => by
  obtain rfl : q = 0 := by omega
  exact ⟨rfl, rfl⟩
theorem ptsOf_app {D : Dat} {i : Nat} (h : PtsOf e (i + 1) D) (x : Int) (hx : x = sm e (i + 1)) : PtsOf e (i + 1 + 1) (D.app (i + 1) (datS [SV.int IntKind.i64 x, SV.int IntKind.i64 (e.ii i 1)] 2)) := fun q hq => by
  by_cases hh : q < i + 1
  · rw [app_lt hh, app_lt hh]; exact h q hh
  · obtain rfl : q = i + 1 := by omega
    rw [app_eq, app_eq]
    exact ⟨hx, rfl⟩
theorem pts_run (P : Pln a b ng g L e) : ∀ (k i f : Nat) (D : Dat), i + k = L → k < f → PtsOf e (i + 1) D → ∃ D', l46_0 L e (L : Int) a b ng g e f (i + 1) (i : Int) D = some (L + 1, L + 1, D') ∧ PtsOf e (L + 1) D'
  | 0, i, f, D, hi, hf, hD => by
    obtain ⟨f, rfl⟩ : ∃ f0, f = f0 + 1 := ⟨f - 1, by omega⟩
    obtain rfl : i = L := by omega
    exact ⟨D, by simp only [l46_0, cdn]; rfl, hD⟩
  | k + 1, i, f, D, hi, hf, hD => by
    obtain ⟨f, rfl⟩ : ∃ f0, f = f0 + 1 := ⟨f - 1, by omega⟩
    have hlt : i < L := by omega
    have hL := P.legs
    have w : IntKind.i64.wrap (((i + 1 : Nat) : Int) - 1) = (i : Int) := by rw [wr (by omega) (by omega)]; omega
    have c1 : decide (0 ≤ (i : Int) ∧ (i : Int) < ((i + 1 : Nat) : Int)) = true := decide_eq_true ⟨by omega, by omega⟩
    have c2 : decide (i < i + 1) = true := decide_eq_true (by omega)
    have c3 : decide (i + 1 + 1 ≤ 1073741824) = true := decide_eq_true (by omega)
    have s0 := P.nonneg (show i ≤ L by omega); have s1 := P.sum (i + 1) (by omega); have l0 := P.leg0 hlt
    have h0 := (hD i (by omega)).1
    have ws : IntKind.i64.wrap (D.ii i 0 + e.ii i 0) = sm e (i + 1) := by
      rw [h0]; simp only [sm] at s1 ⊢; exact wr (by omega) (by omega)
    obtain ⟨D', g1, g2⟩ := pts_run P k (i + 1) f _ (by omega) (by omega) (ptsOf_app hD _ rfl)
    refine ⟨D', ?_, g2⟩
    simp only [l46_0, cdl hlt, cdd hlt, w, c1, c2, c3, Int.toNat_natCast, ws, cond_true, wrS hlt (by omega)]
    exact g1
theorem pts_run' (P : Pln a b ng g L e) : ∀ (k i f : Nat) (D : Dat), i + k = L → k < f → PtsOf e (i + 1) D → ∃ D', l16_0 a b ng g L e f (i + 1) (i : Int) D = some (L + 1, L + 1, D') ∧ PtsOf e (L + 1) D'
  | 0, i, f, D, hi, hf, hD => by
    obtain ⟨f, rfl⟩ : ∃ f0, f = f0 + 1 := ⟨f - 1, by omega⟩
    obtain rfl : i = L := by omega
    exact ⟨D, by simp only [l16_0, cdn]; rfl, hD⟩
  | k + 1, i, f, D, hi, hf, hD => by
    obtain ⟨f, rfl⟩ : ∃ f0, f = f0 + 1 := ⟨f - 1, by omega⟩
    have hlt : i < L := by omega
    have hL := P.legs
    have c1 : decide (0 ≤ (i : Int) ∧ (i : Int) < ((i + 1 : Nat) : Int)) = true := decide_eq_true ⟨by omega, by omega⟩
    have c2 : decide (i < i + 1) = true := decide_eq_true (by omega)
    have c3 : decide (i + 1 + 1 ≤ 1073741824) = true := decide_eq_true (by omega)
    have s0 := P.nonneg (show i ≤ L by omega); have s1 := P.sum (i + 1) (by omega); have l0 := P.leg0 hlt
    have h0 := (hD i (by omega)).1
    have ws : IntKind.i64.wrap (D.ii i 0 + e.ii i 0) = sm e (i + 1) := by
      rw [h0]; simp only [sm] at s1 ⊢; exact wr (by omega) (by omega)
    obtain ⟨D', g1, g2⟩ := pts_run' P k (i + 1) f _ (by omega) (by omega) (ptsOf_app hD _ rfl)
    refine ⟨D', ?_, g2⟩
    simp only [l16_0, cdl hlt, cdd hlt, c1, c2, c3, Int.toNat_natCast, ws, cond_true, wrS hlt (by omega)]
    exact g1
theorem track_ok (P : Pln a b ng g L e) : n46 a b ng g L e = true ∧ ∃ D, m46 a b ng g L e = (L + 1, D) ∧ PtsOf e (L + 1) D := by
  have hL := P.legs
  obtain ⟨D, g1, g2⟩ := pts_run P L 0 (1 + L + (L : Int).toNat + Int.toNat 0 + a.size + b.toNat + ng + 8) _ (by omega) (by omega) (ptsOf_one e)
  have h : o46_0 L e (L : Int) a b ng g e 1 0 (datS [SV.int IntKind.i64 0, SV.int IntKind.i64 0] 2) = some (L + 1, L + 1, D) := g1
  refine ⟨by simp only [n46, h, Option.getD_some, Option.isSome_some, Nat.zero_add, Nat.le_refl, decide_true]; rfl, D, by simp only [m46, h, Option.getD_some], g2⟩
theorem points_ok (P : Pln a b ng g L e) : n16 a b ng g L e = true ∧ ∃ D, m16 a b ng g L e = (L + 1, D) ∧ PtsOf e (L + 1) D := by
  have hL := P.legs
  obtain ⟨D, g1, g2⟩ := pts_run' P L 0 (1 + Int.toNat 0 + a.size + b.toNat + ng + L + 8) _ (by omega) (by omega) (ptsOf_one e)
  have h : o16_0 a b ng g L e 1 0 (datS [SV.int IntKind.i64 0, SV.int IntKind.i64 0] 2) = some (L + 1, L + 1, D) := g1
  refine ⟨by simp only [n16, h, Option.getD_some, Option.isSome_some, Nat.zero_add, Nat.le_refl, decide_true]; rfl, D, by simp only [m16, h, Option.getD_some], g2⟩
theorem end_ok (P : Pln a b ng g L e) {D : Dat} (hD : PtsOf e (L + 1) D) : n47 (L + 1) D = true ∧ m47 (L + 1) D = sm e L := by
  have hL := P.legs
  have w : IntKind.i64.wrap (((L + 1 : Nat) : Int) - 1) = (L : Int) := by rw [wr (by omega) (by omega)]; omega
  refine ⟨by simp only [n47, w, decide_eq_true (show 0 ≤ (L : Int) ∧ (L : Int) < ((L + 1 : Nat) : Int) by omega)]; rfl, ?_⟩
  simp only [m47, w, Int.toNat_natCast]
  exact (hD L (by omega)).1
theorem sec_run (P : Pln a b ng g L e) : ∀ (k i f : Nat), i + k = L → k < f → l13_0 a b ng g L e f (sm e i) (i : Int) = some (sm e L)
  | 0, i, f, hi, hf => by
    obtain ⟨f, rfl⟩ : ∃ f0, f = f0 + 1 := ⟨f - 1, by omega⟩
    obtain rfl : i = L := by omega
    simp only [l13_0, cdn]; rfl
  | k + 1, i, f, hi, hf => by
    obtain ⟨f, rfl⟩ : ∃ f0, f = f0 + 1 := ⟨f - 1, by omega⟩
    have hlt : i < L := by omega
    have hL := P.legs
    have s0 := P.nonneg (show i ≤ L by omega); have s1 := P.sum (i + 1) (by omega); have l0 := P.leg0 hlt
    have ws : IntKind.i64.wrap (sm e i + e.ii i 0) = sm e (i + 1) := by
      simp only [sm] at s1 ⊢; exact wr (by omega) (by omega)
    simp only [l13_0, cdl hlt, cdd hlt, Int.toNat_natCast, ws, cond_true, wrS hlt (by omega)]
    exact sec_run P k (i + 1) f (by omega) (by omega)
theorem seconds_ok (P : Pln a b ng g L e) : n13 a b ng g L e = true ∧ m13 a b ng g L e = sm e L := by
  have h : o13_0 a b ng g L e 0 0 = some (sm e L) := sec_run P L 0 (Int.toNat 0 + Int.toNat 0 + a.size + b.toNat + ng + L + 8) (by omega) (by omega)
  exact ⟨by simp only [n13, h]; rfl, by simp only [m13, h]; rfl⟩
end
end Go.Proofs.YtchhhoamnagbfaaGreatDoor
namespace Go.Proofs.YtchhhoamnagbfaaGreatDoor
open Go Go.Sy
set_option linter.unusedVariables false
set_option linter.unusedSimpArgs false
set_option maxRecDepth 100000
section
variable {a : ByteArray} {b : Int} {ng : Nat} {g : Dat} {L : Nat} {e : Dat}
theorem Pln.small (P : Pln a b ng g L e) : a.size ≤ 12 := by
  have h := P.name
  simp only [m38] at h
  by_cases hs : 12 < (a.size : Int)
  · rw [decide_eq_true hs] at h
    revert h; cases decide ((a.size : Int) < 1) <;> intro h <;> cases h
  · omega
end
end Go.Proofs.YtchhhoamnagbfaaGreatDoor
namespace Go.Proofs.YtchhhoamnagbfaaGreatDoor
open Go Go.Sy
set_option linter.unusedVariables false
set_option linter.unusedSimpArgs false
set_option maxRecDepth 100000
theorem few_bnd {a : ByteArray} {b : Int} {ng : Nat} {g : Dat} {L : Nat} {e : Dat} (hs : m6 a b ng g L e = true) : a.size ≤ 20 ∧ ng ≤ 10 ∧ L ≤ 62 := by
  simp only [m6] at hs
  by_cases h1 : (a.size : Int) ≤ 20
  · by_cases h2 : (ng : Int) ≤ 10
    · by_cases h3 : (L : Int) ≤ 10
      · omega
      · by_cases h4 : (60 : Int) < (L : Int)
        · have : decide ((L : Int) ≤ 62) = true := by simpa [h1, h2, h3, h4] using hs
          have := of_decide_eq_true this; omega
        · simp [h1, h2, h3, h4] at hs
    · simp [h1, h2] at hs
  · simp [h1] at hs
theorem copies_ok {a : ByteArray} {b : Int} {ng : Nat} {g : Dat} {L : Nat} {e : Dat} (hg : ng ≤ 1073741824) (hL : L ≤ 1073741824) : n8 a b ng g L e = true ∧ m8 a b ng g L e = (a, b, ng, g, L, e) := by
  have n59t : n33 ng g = true := by simp only [n33, Nat.zero_add, decide_eq_true hg, Nat.le_refl, decide_true]; rfl
  have n36t : n34 L e = true := by simp only [n34, Nat.zero_add, decide_eq_true hL, Nat.le_refl, decide_true]; rfl
  exact ⟨by simp only [n8, n59t, n36t]; rfl, by simp only [m8, m33, m34, Nat.zero_add, app_nil0]⟩
theorem two_plans (a : ByteArray) (b : Int) (ng : Nat) (g : Dat) (L : Nat) (e : Dat) (a' : ByteArray) (b' : Int) (ng' : Nat) (g' : Dat) (L' : Nat) (e' : Dat) (ha : a.size ≤ 9223372036854775807) (hg : ng ≤ 9223372036854775807) (hL : L ≤ 9223372036854775807) (ha' : a'.size ≤ 9223372036854775807) (hg' : ng' ≤ 9223372036854775807) (hL' : L' ≤ 9223372036854775807) :
    n42 2 (datS [SV.str a, SV.int IntKind.i64 b, SV.ro [Kd.int IntKind.i64, Kd.int IntKind.i64] ng g, SV.ro [Kd.int IntKind.i64, Kd.int IntKind.i64, Kd.int IntKind.i64] L e, SV.str a', SV.int IntKind.i64 b', SV.ro [Kd.int IntKind.i64, Kd.int IntKind.i64] ng' g', SV.ro [Kd.int IntKind.i64, Kd.int IntKind.i64, Kd.int IntKind.i64] L' e'] 4) = true ∧
    m42 2 (datS [SV.str a, SV.int IntKind.i64 b, SV.ro [Kd.int IntKind.i64, Kd.int IntKind.i64] ng g, SV.ro [Kd.int IntKind.i64, Kd.int IntKind.i64, Kd.int IntKind.i64] L e, SV.str a', SV.int IntKind.i64 b', SV.ro [Kd.int IntKind.i64, Kd.int IntKind.i64] ng' g', SV.ro [Kd.int IntKind.i64, Kd.int IntKind.i64, Kd.int IntKind.i64] L' e'] 4) = cond (decide ((m11 a b ng g L e).2 = 0)) (m11 a' b' ng' g' L' e').2 (m11 a b ng g L e).2 := by
  have h : o42_0 2 (datS [SV.str a, SV.int IntKind.i64 b, SV.ro [Kd.int IntKind.i64, Kd.int IntKind.i64] ng g, SV.ro [Kd.int IntKind.i64, Kd.int IntKind.i64, Kd.int IntKind.i64] L e, SV.str a', SV.int IntKind.i64 b', SV.ro [Kd.int IntKind.i64, Kd.int IntKind.i64] ng' g', SV.ro [Kd.int IntKind.i64, Kd.int IntKind.i64, Kd.int IntKind.i64] L' e'] 4) (↑(2 : Nat) : Int) 0 = cond (n63 a b ng g L e) (cond (bif decide ((m63 a b ng g L e).snd = 0) then false else true) (some (true, (m63 a b ng g L e).snd, default)) (cond (n63 a' b' ng' g' L' e') (cond (bif decide ((m63 a' b' ng' g' L' e').snd = 0) then false else true) (some (true, (m63 a' b' ng' g' L' e').snd, default)) (some (false, default, ()))) none)) none := by kernel_rfl
  obtain ⟨h1, h2, h3, _⟩ := plan_ok a b ng g L e ha hg hL
  obtain ⟨k1, k2, k3, _⟩ := plan_ok a' b' ng' g' L' e' ha' hg' hL'
  rw [h1, h3, k1, k3] at h
  simp only [n42, m42, h, cond_true]
  by_cases hz : (m11 a b ng g L e).2 = 0
  · by_cases kz : (m11 a' b' ng' g' L' e').2 = 0
    · rw [decide_eq_true hz, decide_eq_true kz, kz]; exact ⟨rfl, rfl⟩
    · rw [decide_eq_true hz, decide_eq_false kz]; exact ⟨rfl, rfl⟩
  · rw [decide_eq_false hz]; exact ⟨rfl, rfl⟩
end Go.Proofs.YtchhhoamnagbfaaGreatDoor
namespace Go.Proofs.YtchhhoamnagbfaaGreatDoor
open Go Go.Sy
set_option linter.unusedVariables false
set_option linter.unusedSimpArgs false
set_option maxRecDepth 100000
attribute [local simp] brk
noncomputable def hasG (D : Dat) (x y : Int) (i : Nat) : Option (Bool × Int × Unit) := cond (bif decide (D.ii i 0 = x) then decide (D.ii i 1 = y) else false) (some (true, (i : Int), default)) none
noncomputable def fndG (n : Nat) (D : Dat) (x y : Int) : Int := cond (first (hasG D x y) (false, default, ()) n 0).1 (first (hasG D x y) (false, default, ()) n 0).2.1 (-1)
theorem m66_fnd {n : Nat} (hn : n ≤ 9223372036854775807) (D : Dat) (x y : Int) : n66 n D x y = true ∧ m66 n D x y = fndG n D x y := by
  have h : o66_0 n D x y 0 = some (first (hasG D x y) (false, default, ()) n 0) := loop_first (n := n) (l := l66_0 n D x y) hn (fun f i hi => by
    simp only [l66_0, cdl hi, cdd hi, cond_true, Int.toNat_natCast, hasG]
    cases decide (D.ii i 0 = x) <;> cases decide (D.ii i 1 = y) <;> rfl) (fun f => by simp only [l66_0, cdn]; rfl) n 0 _ (by omega) (by omega)
  simp only [n66, m66, h, fndG]
  exact ⟨rfl, rfl⟩
theorem m64_fnd {n : Nat} (hn : n ≤ 9223372036854775807) (D : Dat) (x y : Int) : n64 n D x y = true ∧ m64 n D x y = fndG n D x y := by
  have h : o64_0 n D (n : Int) x y 0 = some (first (hasG D x y) (false, default, ()) n 0) := loop_first (n := n) (l := l64_0 n D (n : Int) x y) hn (fun f i hi => by
    have e0 : decide (x = D.ii i 0) = decide (D.ii i 0 = x) := decide_eq_decide.2 eq_comm
    have e1 : decide (y = D.ii i 1) = decide (D.ii i 1 = y) := decide_eq_decide.2 eq_comm
    simp only [l64_0, cdl hi, cdd hi, cond_true, Int.toNat_natCast, hasG, e0, e1]
    cases decide (D.ii i 0 = x) <;> cases decide (D.ii i 1 = y) <;> rfl) (fun f => by simp only [l64_0, cdn]; rfl) n 0 _ (by omega) (by omega)
  simp only [n64, m64, h, fndG]
  exact ⟨rfl, rfl⟩
theorem hasG_some {D : Dat} {x y : Int} {i : Nat} (h : D.ii i 0 = x ∧ D.ii i 1 = y) : hasG D x y i = some (true, (i : Int), default) := by
  simp only [hasG, h.1, h.2, decide_true, cond_true]
theorem hasG_none {D : Dat} {x y : Int} {i : Nat} (h : ¬ (D.ii i 0 = x ∧ D.ii i 1 = y)) : hasG D x y i = none := by
  unfold hasG
  by_cases h0 : D.ii i 0 = x
  · rw [decide_eq_true h0, decide_eq_false (fun h1 => h ⟨h0, h1⟩)]; rfl
  · rw [decide_eq_false h0]; rfl
theorem fnd_at {n : Nat} {D : Dat} {x y : Int} {q : Nat} (hq : q < n) (h : D.ii q 0 = x ∧ D.ii q 1 = y) (h' : ∀ q', q' < q → ¬ (D.ii q' 0 = x ∧ D.ii q' 1 = y)) : fndG n D x y = (q : Int) := by
  have : first (hasG D x y) (false, default, ()) n 0 = (true, (q : Int), default) := first_some (j := q) (Nat.zero_le _) (by omega) (hasG_some h) fun j _ hj => hasG_none (h' j hj)
  simp only [fndG, this, cond_true]
theorem fnd_no {n : Nat} {D : Dat} {x y : Int} (h : ∀ q, q < n → ¬ (D.ii q 0 = x ∧ D.ii q 1 = y)) : fndG n D x y = -1 := by
  have : first (hasG D x y) (false, default, ()) n 0 = (false, default, ()) := first_none fun j _ hj => hasG_none (h j (by omega))
  simp only [fndG, this, cond_false]
theorem fnd_spec (n : Nat) (D : Dat) (x y : Int) : (fndG n D x y = -1 ∧ ∀ q, q < n → ¬ (D.ii q 0 = x ∧ D.ii q 1 = y)) ∨ ∃ q : Nat, q < n ∧ fndG n D x y = (q : Int) ∧ (D.ii q 0 = x ∧ D.ii q 1 = y) ∧ ∀ q', q' < q → ¬ (D.ii q' 0 = x ∧ D.ii q' 1 = y) := by
  by_cases h : ∃ q, q < n ∧ (D.ii q 0 = x ∧ D.ii q 1 = y)
  · obtain ⟨q0, h1, h2⟩ := h
    have : ∀ k, k ≤ n → (∀ q', q' < k → ¬ (D.ii q' 0 = x ∧ D.ii q' 1 = y)) ∨ ∃ q, q < k ∧ (D.ii q 0 = x ∧ D.ii q 1 = y) ∧ ∀ q', q' < q → ¬ (D.ii q' 0 = x ∧ D.ii q' 1 = y) := by
      intro k
      induction k with
      | zero => exact fun _ => .inl fun q' hq' => by omega
      | succ k ih =>
        intro hk
        rcases ih (by omega) with h | ⟨q, a, b, c⟩
        · by_cases hh : D.ii k 0 = x ∧ D.ii k 1 = y
          · exact .inr ⟨k, by omega, hh, h⟩
          · exact .inl fun q' hq' => by
              by_cases e : q' = k
              · subst e; exact hh
              · exact h q' (by omega)
        · exact .inr ⟨q, by omega, b, c⟩
    rcases this n (Nat.le_refl _) with h | ⟨q, a, b, c⟩
    · exact absurd h2 (h q0 h1)
    · exact .inr ⟨q, a, fnd_at a b c, b, c⟩
  · exact .inl ⟨fnd_no fun q hq hh => h ⟨q, hq, hh⟩, fun q hq hh => h ⟨q, hq, hh⟩⟩
def gx (g e : Dat) (i : Nat) : Int := g.ii (e.ii i 2).toNat 0
def gy (g e : Dat) (i : Nat) : Int := g.ii (e.ii i 2).toNat 1
noncomputable def gst (g e : Dat) : Nat → Nat × Dat
  | 0 => (0, noDat)
  | i + 1 => if fndG (gst g e i).1 (gst g e i).2 (gx g e i) (gy g e i) < 0 then ((gst g e i).1 + 1, (gst g e i).2.app (gst g e i).1 (datS [SV.int IntKind.i64 (gx g e i), SV.int IntKind.i64 (gy g e i)] 2)) else gst g e i
noncomputable def gk (g e : Dat) (i : Nat) : Int := fndG (gst g e (i + 1)).1 (gst g e (i + 1)).2 (gx g e i) (gy g e i)
structure GI (ng : Nat) (g e : Dat) (i : Nat) (s : Nat × Dat) : Prop where
  le : s.1 ≤ i
  gin : ∀ q, q < s.1 → ∃ r, r < ng ∧ s.2.ii q 0 = g.ii r 0 ∧ s.2.ii q 1 = g.ii r 1
  dist : ∀ q' q, q' < q → q < s.1 → ¬ (s.2.ii q' 0 = s.2.ii q 0 ∧ s.2.ii q' 1 = s.2.ii q 1)
  has : ∀ r, r < i → ∃ q, q < s.1 ∧ s.2.ii q 0 = gx g e r ∧ s.2.ii q 1 = gy g e r
section
variable {ng : Nat} {g e : Dat} {L : Nat}
theorem gst_same {i : Nat} (h : ¬ fndG (gst g e i).1 (gst g e i).2 (gx g e i) (gy g e i) < 0) : gst g e (i + 1) = gst g e i := by rw [gst, if_neg h]
theorem gst_more {i : Nat} (h : fndG (gst g e i).1 (gst g e i).2 (gx g e i) (gy g e i) < 0) : gst g e (i + 1) = ((gst g e i).1 + 1, (gst g e i).2.app (gst g e i).1 (datS [SV.int IntKind.i64 (gx g e i), SV.int IntKind.i64 (gy g e i)] 2)) := by rw [gst, if_pos h]
theorem gst_mono1 (i : Nat) : (gst g e i).1 ≤ (gst g e (i + 1)).1 ∧ ∀ q, q < (gst g e i).1 → ∀ c, (gst g e (i + 1)).2.ii q c = (gst g e i).2.ii q c := by
  by_cases h : fndG (gst g e i).1 (gst g e i).2 (gx g e i) (gy g e i) < 0
  · rw [gst_more h]
    exact ⟨Nat.le_succ _, fun q hq c => app_lt hq⟩
  · rw [gst_same h]; exact ⟨Nat.le_refl _, fun _ _ _ => rfl⟩
theorem gst_mono {i : Nat} : ∀ {j : Nat}, i ≤ j → (gst g e i).1 ≤ (gst g e j).1 ∧ ∀ q, q < (gst g e i).1 → ∀ c, (gst g e j).2.ii q c = (gst g e i).2.ii q c
  | 0, h => by
    obtain rfl : i = 0 := by omega
    exact ⟨Nat.le_refl _, fun _ _ _ => rfl⟩
  | j + 1, h => by
    by_cases hij : i = j + 1
    · subst hij; exact ⟨Nat.le_refl _, fun _ _ _ => rfl⟩
    · obtain ⟨a, b⟩ := gst_mono (i := i) (j := j) (by omega)
      obtain ⟨c, d⟩ := gst_mono1 (g := g) (e := e) j
      exact ⟨Nat.le_trans a c, fun q hq k => (d q (by omega) k).trans (b q hq k)⟩
theorem gst_ok (hl : ∀ j, j < L → LegOk ng e j) : ∀ i, i ≤ L → GI ng g e i (gst g e i)
  | 0, _ => ⟨Nat.le_refl _, fun q hq => absurd hq (Nat.not_lt_zero _), fun q' q h hq => absurd hq (Nat.not_lt_zero _), fun r hr => absurd hr (Nat.not_lt_zero _)⟩
  | i + 1, h => by
    have I := gst_ok hl i (by omega)
    have lo := hl i (by omega)
    have hr : (e.ii i 2).toNat < ng := by have := lo.2.2; omega
    rcases fnd_spec (gst g e i).1 (gst g e i).2 (gx g e i) (gy g e i) with ⟨f1, f2⟩ | ⟨q0, f0, f1, f2, f3⟩
    · rw [gst_more (by rw [f1]; decide)]
      generalize gst g e i = s at *
      have at_ : ∀ q, q < s.1 + 1 → ((s.2.app s.1 (datS [SV.int IntKind.i64 (gx g e i), SV.int IntKind.i64 (gy g e i)] 2)).ii q 0 = if q < s.1 then s.2.ii q 0 else gx g e i) ∧ ((s.2.app s.1 (datS [SV.int IntKind.i64 (gx g e i), SV.int IntKind.i64 (gy g e i)] 2)).ii q 1 = if q < s.1 then s.2.ii q 1 else gy g e i) := fun q hq => by
        by_cases hh : q < s.1
        · rw [app_lt hh, app_lt hh, if_pos hh, if_pos hh]; exact ⟨rfl, rfl⟩
        · obtain rfl : q = s.1 := by omega
          rw [app_eq, app_eq, if_neg hh, if_neg hh]; exact ⟨rfl, rfl⟩
      refine ⟨Nat.succ_le_succ I.le, fun q hq => ?_, fun q' q h1 hq => ?_, fun r hr' => ?_⟩
      · rw [(at_ q hq).1, (at_ q hq).2]
        by_cases hh : q < s.1
        · rw [if_pos hh, if_pos hh]; exact I.gin q hh
        · rw [if_neg hh, if_neg hh]; exact ⟨_, hr, rfl, rfl⟩
      · have hq' : q < s.1 + 1 := hq
        rw [(at_ q hq').1, (at_ q hq').2, (at_ q' (by omega)).1, (at_ q' (by omega)).2, if_pos (show q' < s.1 by omega), if_pos (show q' < s.1 by omega)]
        by_cases hh : q < s.1
        · rw [if_pos hh, if_pos hh]; exact I.dist q' q h1 hh
        · rw [if_neg hh, if_neg hh]; exact f2 q' (by omega)
      · by_cases hri : r < i
        · obtain ⟨q, a, b, c⟩ := I.has r hri
          refine ⟨q, Nat.lt_succ_of_lt a, ?_, ?_⟩
          · rw [(at_ q (by omega)).1, if_pos a]; exact b
          · rw [(at_ q (by omega)).2, if_pos a]; exact c
        · obtain rfl : r = i := by omega
          refine ⟨s.1, Nat.lt_succ_self _, ?_, ?_⟩
          · rw [(at_ s.1 (by omega)).1, if_neg (Nat.lt_irrefl _)]
          · rw [(at_ s.1 (by omega)).2, if_neg (Nat.lt_irrefl _)]
    · rw [gst_same (by rw [f1]; omega)]
      refine ⟨Nat.le_succ_of_le I.le, I.gin, I.dist, fun r hr' => ?_⟩
      by_cases hri : r < i
      · exact I.has r hri
      · obtain rfl : r = i := by omega
        exact ⟨q0, f0, f2.1, f2.2⟩
theorem gk_spec (hl : ∀ j, j < L → LegOk ng e j) {i : Nat} (hi : i < L) : ∃ q : Nat, gk g e i = (q : Int) ∧ q < (gst g e (i + 1)).1 ∧ (gst g e (i + 1)).2.ii q 0 = gx g e i ∧ (gst g e (i + 1)).2.ii q 1 = gy g e i ∧
    (∀ j, i + 1 ≤ j → j ≤ L → fndG (gst g e j).1 (gst g e j).2 (gx g e i) (gy g e i) = (q : Int)) ∧ (q < (gst g e i).1 ∨ (q = (gst g e i).1 ∧ (gst g e (i + 1)).1 = (gst g e i).1 + 1)) := by
  have I := gst_ok (g := g) hl (i + 1) (by omega)
  rcases fnd_spec (gst g e (i + 1)).1 (gst g e (i + 1)).2 (gx g e i) (gy g e i) with ⟨f1, f2⟩ | ⟨q, f0, f1, f2, f3⟩
  · obtain ⟨q, a, b, c⟩ := I.has i (Nat.lt_succ_self _)
    exact absurd ⟨b, c⟩ (f2 q a)
  · refine ⟨q, f1, f0, f2.1, f2.2, fun j h1 h2 => ?_, ?_⟩
    · obtain ⟨m1, m2⟩ := gst_mono (g := g) (e := e) h1
      refine fnd_at (by omega) ⟨by rw [m2 q f0]; exact f2.1, by rw [m2 q f0]; exact f2.2⟩ fun q' hq' hh => f3 q' hq' ?_
      rw [m2 q' (by omega), m2 q' (by omega)] at hh; exact hh
    · rcases fnd_spec (gst g e i).1 (gst g e i).2 (gx g e i) (gy g e i) with ⟨k1, k2⟩ | ⟨p, k0, k1, k2, k3⟩
      · have e1 := gst_more (g := g) (e := e) (i := i) (by rw [k1]; decide)
        rw [e1] at f0 f2 ⊢
        by_cases hh : q < (gst g e i).1
        · exact .inl hh
        · have f0 : q < (gst g e i).1 + 1 := f0
          exact .inr ⟨by omega, rfl⟩
      · have e1 := gst_same (g := g) (e := e) (i := i) (by rw [k1]; omega)
        rw [e1] at f0; exact .inl f0
theorem gk_step (hl : ∀ j, j < L → LegOk ng e j) {i : Nat} (hi : i < L) : (fndG (gst g e i).1 (gst g e i).2 (gx g e i) (gy g e i) < 0 ∧ gk g e i = ((gst g e i).1 : Int)) ∨ (¬ fndG (gst g e i).1 (gst g e i).2 (gx g e i) (gy g e i) < 0 ∧ gk g e i = fndG (gst g e i).1 (gst g e i).2 (gx g e i) (gy g e i)) := by
  rcases fnd_spec (gst g e i).1 (gst g e i).2 (gx g e i) (gy g e i) with ⟨k1, k2⟩ | ⟨p, k0, k1, k2, k3⟩
  · left
    have e1 := gst_more (g := g) (e := e) (i := i) (by rw [k1]; decide)
    refine ⟨by rw [k1]; decide, ?_⟩
    rw [gk, e1]
    refine fnd_at (Nat.lt_succ_self _) ⟨by rw [app_eq]; rfl, by rw [app_eq]; rfl⟩ fun q' hq' => ?_
    rw [app_lt hq', app_lt hq']; exact k2 q' hq'
  · right
    have e1 := gst_same (g := g) (e := e) (i := i) (by rw [k1]; omega)
    exact ⟨by rw [k1]; omega, by rw [gk, e1]⟩
end
theorem pigeon : ∀ (n c : Nat) (f : Nat → Nat), (∀ q, q < c → f q < n) → (∀ q' q, q' < q → q < c → f q' ≠ f q) → c ≤ n
  | 0, c, f, h1, h2 => by
    apply Decidable.byContradiction
    intro h
    have := h1 0 (by omega)
    omega
  | n + 1, c, f, h1, h2 => by
    by_cases hz : ∃ p, p < c ∧ f p = n
    · obtain ⟨p, hp, hpn⟩ := hz
      have := pigeon n (c - 1) (fun q => if q < p then f q else f (q + 1)) (fun q hq => by
        by_cases hh : q < p
        · have a := h1 q (by omega); have b := h2 q p hh hp
          rw [if_pos hh]; omega
        · have a := h1 (q + 1) (by omega); have b := h2 p (q + 1) (by omega) (by omega)
          rw [if_neg hh]; omega) fun q' q h hq => by
        by_cases a : q' < p
        · by_cases b : q < p
          · simp only [if_pos a, if_pos b]; exact h2 q' q h (by omega)
          · simp only [if_pos a, if_neg b]; exact h2 q' (q + 1) (by omega) (by omega)
        · simp only [if_neg a, if_neg (show ¬ q < p by omega)]; exact h2 (q' + 1) (q + 1) (by omega) (by omega)
      omega
    · have := pigeon n c f (fun q hq => by
        have a := h1 q hq
        have : f q ≠ n := fun hh => hz ⟨q, hq, hh⟩
        omega) h2
      omega
theorem GI.few {ng : Nat} {g e : Dat} {i : Nat} {s : Nat × Dat} (I : GI ng g e i s) : s.1 ≤ ng := by
  have h : ∀ q, ∃ r, q < s.1 → (r < ng ∧ s.2.ii q 0 = g.ii r 0 ∧ s.2.ii q 1 = g.ii r 1) := fun q => by
    by_cases hq : q < s.1
    · obtain ⟨r, hr⟩ := I.gin q hq; exact ⟨r, fun _ => hr⟩
    · exact ⟨0, fun h => absurd h hq⟩
  obtain ⟨f, hf⟩ := Classical.axiomOfChoice h
  exact pigeon ng s.1 f (fun q hq => (hf q hq).1) fun q' q h hq hh => by
    have a := (hf q' (by omega)).2; have b := (hf q hq).2
    rw [hh] at a
    exact I.dist q' q h hq ⟨a.1.trans b.1.symm, a.2.trans b.2.symm⟩
theorem sm_congr {o o' : Dat} : ∀ {n : Nat}, (∀ q, q < n → o.ii q 0 = o'.ii q 0) → sm o n = sm o' n
  | 0, _ => rfl
  | n + 1, h => by simp only [sm]; rw [sm_congr (n := n) fun q hq => h q (by omega), h n (by omega)]
theorem dp_congr {o o' : Dat} {n : Nat} (h : ∀ q, q < n → o.ii q 1 = o'.ii q 1) : dp o n = dp o' n := by
  cases n with
  | zero => rfl
  | succ n => exact h n (by omega)
theorem upd3 (o : Dat) (k q : Nat) (a b c : Int) : ((o.upd k 0 [SV.int IntKind.i64 a, SV.int IntKind.i64 b, SV.int IntKind.i64 c]).ii q 0 = if q = k then a else o.ii q 0) ∧ ((o.upd k 0 [SV.int IntKind.i64 a, SV.int IntKind.i64 b, SV.int IntKind.i64 c]).ii q 1 = if q = k then b else o.ii q 1) ∧ ((o.upd k 0 [SV.int IntKind.i64 a, SV.int IntKind.i64 b, SV.int IntKind.i64 c]).ii q 2 = if q = k then c else o.ii q 2) := by
  by_cases h : q = k <;> simp [Dat.upd, h]
theorem app3 (o : Dat) (n q : Nat) (hq : q < n + 1) (a b c : Int) : ((o.app n (datS [SV.int IntKind.i64 a, SV.int IntKind.i64 b, SV.int IntKind.i64 c] 3)).ii q 0 = if q = n then a else o.ii q 0) ∧ ((o.app n (datS [SV.int IntKind.i64 a, SV.int IntKind.i64 b, SV.int IntKind.i64 c] 3)).ii q 1 = if q = n then b else o.ii q 1) ∧ ((o.app n (datS [SV.int IntKind.i64 a, SV.int IntKind.i64 b, SV.int IntKind.i64 c] 3)).ii q 2 = if q = n then c else o.ii q 2) := by
  by_cases h : q = n
  · subst h; rw [app_eq, app_eq, app_eq, if_pos rfl, if_pos rfl, if_pos rfl]; exact ⟨rfl, rfl, rfl⟩
  · have : q < n := by omega
    rw [app_lt this, app_lt this, app_lt this, if_neg h, if_neg h, if_neg h]; exact ⟨rfl, rfl, rfl⟩
def Mrg (s : Nat × Dat) (S B K : Int) : Prop := 0 < s.1 ∧ s.2.ii (s.1 - 1) 2 = K ∧ (dp s.2 s.1 - dp s.2 (s.1 - 1)) * S = (B - dp s.2 s.1) * s.2.ii (s.1 - 1) 0
instance (s : Nat × Dat) (S B K : Int) : Decidable (Mrg s S B K) := by unfold Mrg; infer_instance
noncomputable def stepL (s : Nat × Dat) (S B K : Int) : Nat × Dat :=
  if Mrg s S B K then (s.1, s.2.upd (s.1 - 1) 0 [SV.int IntKind.i64 (s.2.ii (s.1 - 1) 0 + S), SV.int IntKind.i64 B, SV.int IntKind.i64 K]) else (s.1 + 1, s.2.app s.1 (datS [SV.int IntKind.i64 S, SV.int IntKind.i64 B, SV.int IntKind.i64 K] 3))
noncomputable def lst (g e : Dat) : Nat → Nat × Dat
  | 0 => (0, noDat)
  | i + 1 => stepL (lst g e i) (e.ii i 0) (e.ii i 1) (gk g e i)
def Ag (n : Nat) (o o' : Dat) : Prop := ∀ q, q < n → o.ii q 0 = o'.ii q 0 ∧ o.ii q 1 = o'.ii q 1 ∧ o.ii q 2 = o'.ii q 2
theorem Ag.sm {n : Nat} {o o' : Dat} (h : Ag n o o') {q : Nat} (hq : q ≤ n) : sm o q = sm o' q := sm_congr fun k hk => (h k (by omega)).1
theorem Ag.dp {n : Nat} {o o' : Dat} (h : Ag n o o') {q : Nat} (hq : q ≤ n) : dp o q = dp o' q := dp_congr fun k hk => (h k (by omega)).2.1
theorem step_app {s : Nat × Dat} {S B K : Int} (h : ¬ Mrg s S B K) : (stepL s S B K).1 = s.1 + 1 ∧ (∀ q, q < s.1 → ∀ c, (stepL s S B K).2.ii q c = s.2.ii q c) ∧ (stepL s S B K).2.ii s.1 0 = S ∧ (stepL s S B K).2.ii s.1 1 = B ∧ (stepL s S B K).2.ii s.1 2 = K := by
  unfold stepL
  rw [if_neg h]
  refine ⟨rfl, fun q hq c => app_lt hq, ?_, ?_, ?_⟩ <;> (simp only [app_eq]; rfl)
theorem step_mrg {s : Nat × Dat} {S B K : Int} (h : Mrg s S B K) : (stepL s S B K).1 = s.1 ∧ (∀ q, q + 1 < s.1 → ∀ c, (stepL s S B K).2.ii q c = s.2.ii q c) ∧ (stepL s S B K).2.ii (s.1 - 1) 0 = s.2.ii (s.1 - 1) 0 + S ∧ (stepL s S B K).2.ii (s.1 - 1) 1 = B ∧ (stepL s S B K).2.ii (s.1 - 1) 2 = K := by
  unfold stepL
  rw [if_pos h]
  have u := upd3 s.2 (s.1 - 1) (s.1 - 1) (s.2.ii (s.1 - 1) 0 + S) B K
  refine ⟨rfl, fun q hq c => ?_, ?_, ?_, ?_⟩
  · have : ¬ q = s.1 - 1 := by omega
    simp only [Dat.upd, if_neg this]
  · rw [u.1, if_pos rfl]
  · rw [u.2.1, if_pos rfl]
  · rw [u.2.2, if_pos rfl]
theorem line_more {A B S T h t : Int} (hS : 0 < S) (m : A * T = B * S) (k : h * S = A * t) : h * (S + T) = (A + B) * t := by
  have : (h * (S + T)) * S = ((A + B) * t) * S := by
    have e1 : (h * (S + T)) * S = (h * S) * (S + T) := by ac_rfl
    rw [e1, k, Int.add_mul A B t, Int.add_mul (A * t) (B * t) S, Int.mul_add]
    have e2 : A * t * T = (A * T) * t := by ac_rfl
    have e3 : B * t * S = (B * S) * t := by ac_rfl
    rw [e2, e3, m]
  exact Int.eq_of_mul_eq_mul_right (by omega) this
theorem line_back {A B S T A0 S0 : Int} (hS : 0 < S) (hT : 0 < T) (m : A * T = B * S) (k : A0 * (S + T) = (A + B) * S0) : A0 * S = A * S0 := by
  have : (A0 * S) * (S + T) = (A * S0) * (S + T) := by
    have e1 : (A0 * S) * (S + T) = (A0 * (S + T)) * S := by ac_rfl
    rw [e1, k, Int.add_mul A B S0, Int.add_mul (A * S0) (B * S0) S, Int.mul_add]
    have e2 : A * S0 * T = (A * T) * S0 := by ac_rfl
    have e3 : B * S0 * S = (B * S) * S0 := by ac_rfl
    rw [e2, e3, m]
  exact Int.eq_of_mul_eq_mul_right (by omega) this
end Go.Proofs.YtchhhoamnagbfaaGreatDoor
namespace Go.Proofs.YtchhhoamnagbfaaGreatDoor
open Go Go.Sy
set_option linter.unusedVariables false
set_option linter.unusedSimpArgs false
set_option maxRecDepth 100000
structure NI (g e : Dat) (i : Nat) (s : Nat × Dat) : Prop where
  cnt : s.1 ≤ i
  pos : 0 < i → 0 < s.1
  sum : sm s.2 s.1 = sm e i
  fin : dp s.2 s.1 = dp e i
  ok : ∀ q, q < s.1 → 1 ≤ s.2.ii q 0 ∧ (0 ≤ s.2.ii q 1 ∧ s.2.ii q 1 ≤ 30000) ∧ 0 ≤ s.2.ii q 2 ∧ s.2.ii q 2 < ((gst g e i).1 : Int)
  used : ∀ v : Nat, v < (gst g e i).1 → ∃ q, q < s.1 ∧ s.2.ii q 2 = (v : Int)
  ord : ∀ q, q < s.1 → ∀ v : Nat, (v : Int) < s.2.ii q 2 → ∃ q', q' < q ∧ s.2.ii q' 2 = (v : Int)
  adj : ∀ q, q + 1 < s.1 → ¬ (s.2.ii q 2 = s.2.ii (q + 1) 2 ∧ (dp s.2 (q + 1) - dp s.2 q) * s.2.ii (q + 1) 0 = (dp s.2 (q + 2) - dp s.2 (q + 1)) * s.2.ii q 0)
  cov : ∀ r, r < i → ∃ q, q < s.1 ∧ s.2.ii q 2 = gk g e r ∧ sm s.2 q ≤ sm e r ∧ sm e (r + 1) ≤ sm s.2 (q + 1) ∧ (dp e r - dp s.2 q) * s.2.ii q 0 = (s.2.ii q 1 - dp s.2 q) * (sm e r - sm s.2 q) ∧ (dp e (r + 1) - dp s.2 q) * s.2.ii q 0 = (s.2.ii q 1 - dp s.2 q) * (sm e (r + 1) - sm s.2 q)
theorem sm_eq {o o' : Dat} {n : Nat} (h : ∀ q, q < n → ∀ c, o'.ii q c = o.ii q c) {q : Nat} (hq : q ≤ n) : sm o' q = sm o q := sm_congr fun k hk => h k (by omega) 0
theorem dp_eq {o o' : Dat} {n : Nat} (h : ∀ q, q < n → ∀ c, o'.ii q c = o.ii q c) {q : Nat} (hq : q ≤ n) : dp o' q = dp o q := dp_congr fun k hk => h k (by omega) 1
theorem ni_step {ng : Nat} {g e : Dat} {L : Nat} (hl : ∀ j, j < L → LegOk ng e j) {i : Nat} (hi : i < L) {s : Nat × Dat} (I : NI g e i s) : NI g e (i + 1) (stepL s (e.ii i 0) (e.ii i 1) (gk g e i)) := by
  obtain ⟨⟨l1, l2⟩, ⟨l3, l4⟩, l5, l6⟩ := hl i hi
  obtain ⟨k, k1, k2, k3, k4, k5, k6⟩ := gk_spec (g := g) hl hi
  have cm : (gst g e i).1 ≤ (gst g e (i + 1)).1 := (gst_mono1 i).1
  have cs : (gst g e (i + 1)).1 = (gst g e i).1 ∨ ((gst g e (i + 1)).1 = (gst g e i).1 + 1 ∧ k = (gst g e i).1) := by
    rcases gk_step (g := g) hl hi with ⟨a, b⟩ | ⟨a, b⟩
    · have := gst_more a
      right
      exact ⟨by rw [this], by rw [k1] at b; omega⟩
    · left; rw [gst_same a]
  by_cases hm : Mrg s (e.ii i 0) (e.ii i 1) (gk g e i)
  · obtain ⟨m0, m1, m2⟩ := hm
    obtain ⟨u1, u2, u3, u4, u5⟩ := step_mrg ⟨m0, m1, m2⟩
    generalize stepL s (e.ii i 0) (e.ii i 1) (gk g e i) = s' at *
    obtain ⟨n, o⟩ := s
    obtain ⟨n', o'⟩ := s'
    simp only at *
    obtain ⟨n, rfl⟩ : ∃ p, n = p + 1 := ⟨n - 1, by omega⟩
    simp only [Nat.add_sub_cancel] at *
    subst u1
    have hsame : (gst g e (i + 1)).1 = (gst g e i).1 := by
      rcases cs with h | ⟨h, h'⟩
      · exact h
      · have := (I.ok n (by omega)).2.2.2
        simp only at this
        rw [m1, k1] at this; omega
    have u2' : ∀ q, q < n → ∀ c, o'.ii q c = o.ii q c := fun q hq c => u2 q (by omega) c
    have s1 : ∀ {q}, q ≤ n → sm o' q = sm o q := fun hq => sm_eq u2' hq
    have d1 : ∀ {q}, q ≤ n → dp o' q = dp o q := fun hq => dp_eq u2' hq
    have S0 := (I.ok n (by omega)).1
    simp only at S0
    have sn : sm o' (n + 1) = sm o (n + 1) + e.ii i 0 := by simp only [sm]; rw [s1 (Nat.le_refl _), u3]; omega
    have dn : dp o' (n + 1) = e.ii i 1 := u4
    have don : dp o (n + 1) = o.ii n 1 := rfl
    have hsum := I.sum; have hfin := I.fin
    simp only at hsum hfin
    have m2 : (dp o (n + 1) - dp o n) * e.ii i 0 = (e.ii i 1 - dp o (n + 1)) * o.ii n 0 := m2
    have asm : sm o (n + 1) = sm o n + o.ii n 0 := rfl
    have esm : sm e (i + 1) = sm e i + e.ii i 0 := rfl
    have edp : dp e (i + 1) = e.ii i 1 := rfl
    refine ⟨Nat.le_succ_of_le I.cnt, fun _ => Nat.succ_pos n, ?_, ?_, fun q hq => ?_, fun v hv => ?_, fun q hq v hv => ?_, fun q hq => ?_, fun r hr => ?_⟩
    · show sm o' (n + 1) = _; rw [sn, hsum]; rfl
    · show dp o' (n + 1) = _; rw [dn]; rfl
    · show 1 ≤ o'.ii q 0 ∧ _
      rw [hsame]
      by_cases h : q = n
      · subst h
        have ok := (I.ok q (by omega)).2.2
        simp only at ok
        rw [u3, u4, u5, k1]
        rw [m1, k1] at ok
        exact ⟨by omega, ⟨l3, l4⟩, ok.1, ok.2⟩
      · have hq : q < n + 1 := hq
        rw [u2' q (by omega), u2' q (by omega), u2' q (by omega)]
        exact I.ok q hq
    · rw [hsame] at hv
      obtain ⟨q, a, b⟩ := I.used v hv
      refine ⟨q, a, ?_⟩
      show o'.ii q 2 = _
      have a : q < n + 1 := a
      have b : o.ii q 2 = (v : Int) := b
      by_cases h : q = n
      · subst h; rw [u5, ← m1]; exact b
      · rw [u2' q (by omega)]; exact b
    · have hq : q < n + 1 := hq
      have hv : (v : Int) < o'.ii q 2 := hv
      have e2 : o'.ii q 2 = o.ii q 2 := by
        by_cases h : q = n
        · subst h; rw [u5, ← m1]
        · exact u2' q (by omega) 2
      rw [e2] at hv
      obtain ⟨q', a, b⟩ := I.ord q hq v hv
      exact ⟨q', a, by show o'.ii q' 2 = _; rw [u2' q' (by omega)]; exact b⟩
    · have hq : q + 1 < n + 1 := hq
      show ¬ (o'.ii q 2 = o'.ii (q + 1) 2 ∧ (dp o' (q + 1) - dp o' q) * o'.ii (q + 1) 0 = (dp o' (q + 2) - dp o' (q + 1)) * o'.ii q 0)
      have old := I.adj q hq
      simp only at old
      rw [u2' q (by omega), u2' q (by omega), d1 (show q + 1 ≤ n by omega), d1 (show q ≤ n by omega)]
      by_cases h : q + 1 = n
      · rw [h] at old ⊢
        rw [show q + 2 = n + 1 by omega] at old ⊢
        rw [u5, u3, dn]
        rw [m1] at old
        rintro ⟨x1, x2⟩
        refine old ⟨x1, ?_⟩
        refine line_back (T := e.ii i 0) (B := e.ii i 1 - dp o (n + 1)) (by omega) (by omega) m2 ?_
        rw [x2]
        congr 1; omega
      · rw [u2' (q + 1) (by omega), u2' (q + 1) (by omega), d1 (show q + 2 ≤ n by omega)]
        exact old
    · by_cases hri : r < i
      · obtain ⟨q, c1, c2, c3, c4, c5, c6⟩ := I.cov r hri
        simp only at c1 c2 c3 c4 c5 c6
        by_cases h : q = n
        · subst h
          refine ⟨q, c1, ?_, ?_, ?_, ?_, ?_⟩
          · show o'.ii q 2 = _; rw [u5, ← m1]; exact c2
          · show sm o' q ≤ _; rw [s1 (Nat.le_refl _)]; exact c3
          · show _ ≤ sm o' (q + 1); rw [sn]; omega
          · show (_ - dp o' q) * o'.ii q 0 = (o'.ii q 1 - dp o' q) * (_ - sm o' q)
            rw [u3, u4, d1 (Nat.le_refl _), s1 (Nat.le_refl _)]
            have := line_more (T := e.ii i 0) (B := e.ii i 1 - dp o (q + 1)) (by omega) m2 (h := dp e r - dp o q) (t := sm e r - sm o q) c5
            rw [this]; congr 1; omega
          · show (_ - dp o' q) * o'.ii q 0 = (o'.ii q 1 - dp o' q) * (_ - sm o' q)
            rw [u3, u4, d1 (Nat.le_refl _), s1 (Nat.le_refl _)]
            have := line_more (T := e.ii i 0) (B := e.ii i 1 - dp o (q + 1)) (by omega) m2 (h := dp e (r + 1) - dp o q) (t := sm e (r + 1) - sm o q) c6
            rw [this]; congr 1; omega
        · refine ⟨q, c1, ?_, ?_, ?_, ?_, ?_⟩
          · show o'.ii q 2 = _; rw [u2' q (by omega)]; exact c2
          · show sm o' q ≤ _; rw [s1 (by omega)]; exact c3
          · show _ ≤ sm o' (q + 1); rw [s1 (by omega)]; exact c4
          · show (_ - dp o' q) * o'.ii q 0 = (o'.ii q 1 - dp o' q) * (_ - sm o' q)
            rw [u2' q (by omega), u2' q (by omega), d1 (by omega), s1 (by omega)]; exact c5
          · show (_ - dp o' q) * o'.ii q 0 = (o'.ii q 1 - dp o' q) * (_ - sm o' q)
            rw [u2' q (by omega), u2' q (by omega), d1 (by omega), s1 (by omega)]; exact c6
      · obtain rfl : r = i := by omega
        refine ⟨n, Nat.lt_succ_self n, u5, ?_, ?_, ?_, ?_⟩
        · show sm o' n ≤ _; rw [s1 (Nat.le_refl _)]; omega
        · show _ ≤ sm o' (n + 1); rw [sn]; omega
        · show (_ - dp o' n) * o'.ii n 0 = (o'.ii n 1 - dp o' n) * (_ - sm o' n)
          rw [u3, u4, d1 (Nat.le_refl _), s1 (Nat.le_refl _)]
          have := line_more (T := e.ii r 0) (B := e.ii r 1 - dp o (n + 1)) (by omega) m2 (h := dp e r - dp o n) (t := sm e r - sm o n) (by rw [← hfin, ← hsum, asm, show sm o n + o.ii n 0 - sm o n = o.ii n 0 by omega])
          rw [this]; congr 1; omega
        · show (_ - dp o' n) * o'.ii n 0 = (o'.ii n 1 - dp o' n) * (_ - sm o' n)
          rw [u3, u4, d1 (Nat.le_refl _), s1 (Nat.le_refl _), edp]
          congr 1; omega
  · obtain ⟨u1, u2, u3, u4, u5⟩ := step_app hm
    generalize stepL s (e.ii i 0) (e.ii i 1) (gk g e i) = s' at *
    obtain ⟨n, o⟩ := s
    obtain ⟨n', o'⟩ := s'
    simp only at *
    subst u1
    have s1 : ∀ {q}, q ≤ n → sm o' q = sm o q := fun hq => sm_eq u2 hq
    have d1 : ∀ {q}, q ≤ n → dp o' q = dp o q := fun hq => dp_eq u2 hq
    have sn : sm o' (n + 1) = sm o n + e.ii i 0 := by simp only [sm]; rw [s1 (Nat.le_refl _), u3]
    have dn : dp o' (n + 1) = e.ii i 1 := u4
    have hsum := I.sum; have hfin := I.fin
    simp only at hsum hfin
    have esm : sm e (i + 1) = sm e i + e.ii i 0 := rfl
    have edp : dp e (i + 1) = e.ii i 1 := rfl
    refine ⟨Nat.succ_le_succ I.cnt, fun _ => Nat.succ_pos n, ?_, ?_, fun q hq => ?_, fun v hv => ?_, fun q hq v hv => ?_, fun q hq => ?_, fun r hr => ?_⟩
    · show sm o' (n + 1) = _; rw [sn, hsum]; rfl
    · show dp o' (n + 1) = _; rw [dn]; rfl
    · show 1 ≤ o'.ii q 0 ∧ _
      have hq : q < n + 1 := hq
      by_cases h : q = n
      · subst h; rw [u3, u4, u5, k1]; exact ⟨l1, ⟨l3, l4⟩, by omega, by omega⟩
      · rw [u2 q (by omega), u2 q (by omega), u2 q (by omega)]
        have := I.ok q (show q < n by omega)
        simp only at this
        exact ⟨this.1, this.2.1, this.2.2.1, by omega⟩
    · by_cases hv' : v < (gst g e i).1
      · obtain ⟨q, a, b⟩ := I.used v hv'
        exact ⟨q, Nat.lt_succ_of_lt a, by show o'.ii q 2 = _; rw [u2 q a]; exact b⟩
      · refine ⟨n, Nat.lt_succ_self n, ?_⟩
        show o'.ii n 2 = _
        rw [u5, k1]
        omega
    · have hq : q < n + 1 := hq
      have hv : (v : Int) < o'.ii q 2 := hv
      by_cases h : q = n
      · subst h
        rw [u5, k1] at hv
        obtain ⟨q', a, b⟩ := I.used v (by omega)
        exact ⟨q', a, by show o'.ii q' 2 = _; rw [u2 q' a]; exact b⟩
      · rw [u2 q (by omega)] at hv
        obtain ⟨q', a, b⟩ := I.ord q (show q < n by omega) v hv
        exact ⟨q', a, by show o'.ii q' 2 = _; rw [u2 q' (by omega)]; exact b⟩
    · have hq : q + 1 < n + 1 := hq
      show ¬ (o'.ii q 2 = o'.ii (q + 1) 2 ∧ (dp o' (q + 1) - dp o' q) * o'.ii (q + 1) 0 = (dp o' (q + 2) - dp o' (q + 1)) * o'.ii q 0)
      rw [u2 q (by omega), u2 q (by omega), d1 (show q + 1 ≤ n by omega), d1 (show q ≤ n by omega)]
      by_cases h : q + 1 = n
      · rw [show q + 2 = n + 1 by omega, dn, h, u3, u5]
        rintro ⟨x1, x2⟩
        refine hm ⟨show 0 < n by omega, ?_, ?_⟩
        · show o.ii (n - 1) 2 = _; rw [show n - 1 = q by omega]; exact x1
        · show (dp o n - dp o (n - 1)) * _ = (_ - dp o n) * o.ii (n - 1) 0
          rw [show n - 1 = q by omega]; exact x2
      · rw [u2 (q + 1) (by omega), u2 (q + 1) (by omega), d1 (show q + 2 ≤ n by omega)]
        exact I.adj q (show q + 1 < n by omega)
    · by_cases hri : r < i
      · obtain ⟨q, c1, c2, c3, c4, c5, c6⟩ := I.cov r hri
        simp only at c1 c2 c3 c4 c5 c6
        refine ⟨q, Nat.lt_succ_of_lt c1, ?_, ?_, ?_, ?_, ?_⟩
        · show o'.ii q 2 = _; rw [u2 q c1]; exact c2
        · show sm o' q ≤ _; rw [s1 (by omega)]; exact c3
        · show _ ≤ sm o' (q + 1); rw [s1 (by omega)]; exact c4
        · show (_ - dp o' q) * o'.ii q 0 = (o'.ii q 1 - dp o' q) * (_ - sm o' q)
          rw [u2 q c1, u2 q c1, d1 (by omega), s1 (by omega)]; exact c5
        · show (_ - dp o' q) * o'.ii q 0 = (o'.ii q 1 - dp o' q) * (_ - sm o' q)
          rw [u2 q c1, u2 q c1, d1 (by omega), s1 (by omega)]; exact c6
      · obtain rfl : r = i := by omega
        refine ⟨n, Nat.lt_succ_self n, u5, ?_, ?_, ?_, ?_⟩
        · show sm o' n ≤ _; rw [s1 (Nat.le_refl _)]; omega
        · show _ ≤ sm o' (n + 1); rw [sn]; omega
        · show (_ - dp o' n) * o'.ii n 0 = (o'.ii n 1 - dp o' n) * (_ - sm o' n)
          rw [u3, u4, d1 (Nat.le_refl _), s1 (Nat.le_refl _), hfin, hsum, Int.sub_self, Int.sub_self, Int.zero_mul, Int.mul_zero]
        · show (_ - dp o' n) * o'.ii n 0 = (o'.ii n 1 - dp o' n) * (_ - sm o' n)
          rw [u3, u4, d1 (Nat.le_refl _), s1 (Nat.le_refl _), edp]
          congr 1; omega
theorem ni_all {ng : Nat} {g e : Dat} {L : Nat} (hl : ∀ j, j < L → LegOk ng e j) : ∀ i, i ≤ L → NI g e i (lst g e i)
  | 0, _ => ⟨Nat.le_refl _, fun h => absurd h (Nat.lt_irrefl _), rfl, rfl, fun q hq => absurd hq (Nat.not_lt_zero _), fun v hv => absurd hv (Nat.not_lt_zero _), fun q hq => absurd hq (Nat.not_lt_zero _), fun q hq => absurd hq (Nat.not_lt_zero _), fun r hr => absurd hr (Nat.not_lt_zero _)⟩
  | i + 1, h => ni_step hl (show i < L by omega) (ni_all hl i (by omega))
end Go.Proofs.YtchhhoamnagbfaaGreatDoor
namespace Go.Proofs.YtchhhoamnagbfaaGreatDoor
open Go Go.Sy
set_option linter.unusedVariables false
set_option linter.unusedSimpArgs false
set_option maxRecDepth 100000
section
variable {a : ByteArray} {b : Int} {ng : Nat} {g : Dat} {L : Nat} {e : Dat}
def Tk (n : Nat) (o t : Dat) : Prop := ∀ q, q < n + 1 → t.ii q 0 = sm o q ∧ t.ii q 1 = dp o q
theorem upd1 (o : Dat) (k q : Nat) (a b : Int) : (((o.upd k 0 [SV.int IntKind.i64 a]).upd k 1 [SV.int IntKind.i64 b]).ii q 0 = if q = k then a else o.ii q 0) ∧ (((o.upd k 0 [SV.int IntKind.i64 a]).upd k 1 [SV.int IntKind.i64 b]).ii q 1 = if q = k then b else o.ii q 1) ∧ (((o.upd k 0 [SV.int IntKind.i64 a]).upd k 1 [SV.int IntKind.i64 b]).ii q 2 = o.ii q 2) := by
  by_cases h : q = k <;> simp [Dat.upd, h]
theorem upd2 (o : Dat) (k q : Nat) (a b : Int) : ((o.upd k 0 [SV.int IntKind.i64 a, SV.int IntKind.i64 b]).ii q 0 = if q = k then a else o.ii q 0) ∧ ((o.upd k 0 [SV.int IntKind.i64 a, SV.int IntKind.i64 b]).ii q 1 = if q = k then b else o.ii q 1) := by
  by_cases h : q = k <;> simp [Dat.upd, h]
theorem app2 (o : Dat) (n q : Nat) (hq : q < n + 1) (a b : Int) : ((o.app n (datS [SV.int IntKind.i64 a, SV.int IntKind.i64 b] 2)).ii q 0 = if q = n then a else o.ii q 0) ∧ ((o.app n (datS [SV.int IntKind.i64 a, SV.int IntKind.i64 b] 2)).ii q 1 = if q = n then b else o.ii q 1) := by
  by_cases h : q = n
  · subst h; rw [app_eq, app_eq, if_pos rfl, if_pos rfl]; exact ⟨rfl, rfl⟩
  · have : q < n := by omega
    rw [app_lt this, app_lt this, if_neg h, if_neg h]; exact ⟨rfl, rfl⟩
theorem ag_mrg {s : Nat × Dat} {S B K : Int} (h : Mrg s S B K) {o o' : Dat} (hA : Ag s.1 o s.2) (h1 : ∀ q, q < s.1 → o'.ii q 0 = (if q = s.1 - 1 then o.ii (s.1 - 1) 0 + S else o.ii q 0) ∧ o'.ii q 1 = (if q = s.1 - 1 then B else o.ii q 1) ∧ (q = s.1 - 1 → o'.ii q 2 = K) ∧ (q ≠ s.1 - 1 → o'.ii q 2 = o.ii q 2)) : Ag s.1 o' (stepL s S B K).2 := fun q hq => by
  obtain ⟨u1, u2, u3, u4, u5⟩ := step_mrg h
  obtain ⟨p0, p1, p2, p3⟩ := h1 q hq
  by_cases hh : q = s.1 - 1
  · subst hh
    rw [p0, p1, p2 rfl, if_pos rfl, if_pos rfl, u3, u4, u5, (hA _ hq).1]; exact ⟨rfl, rfl, rfl⟩
  · rw [p0, p1, p3 hh, if_neg hh, if_neg hh, u2 q (by omega), u2 q (by omega), u2 q (by omega)]
    exact hA q hq
theorem ag_app {s : Nat × Dat} {S B K : Int} (h : ¬ Mrg s S B K) {o : Dat} (hA : Ag s.1 o s.2) : Ag (s.1 + 1) (o.app s.1 (datS [SV.int IntKind.i64 S, SV.int IntKind.i64 B, SV.int IntKind.i64 K] 3)) (stepL s S B K).2 := fun q hq => by
  obtain ⟨u1, u2, u3, u4, u5⟩ := step_app h
  obtain ⟨p0, p1, p2⟩ := app3 o s.1 q hq S B K
  rw [p0, p1, p2]
  by_cases hh : q = s.1
  · subst hh
    rw [if_pos rfl, if_pos rfl, if_pos rfl, u3, u4, u5]; exact ⟨rfl, rfl, rfl⟩
  · rw [if_neg hh, if_neg hh, if_neg hh, u2 q (by omega), u2 q (by omega), u2 q (by omega)]
    exact hA q (by omega)
theorem tk_mrg {s : Nat × Dat} {S B K : Int} (h : Mrg s S B K) {t : Dat} (ht : Tk s.1 s.2 t) (x : Int) (hx : x = sm s.2 s.1 + S) : Tk s.1 (stepL s S B K).2 (t.upd s.1 0 [SV.int IntKind.i64 x, SV.int IntKind.i64 B]) := fun q hq => by
  obtain ⟨u1, u2, u3, u4, u5⟩ := step_mrg h
  obtain ⟨m0, _⟩ := h
  obtain ⟨p0, p1⟩ := upd2 t s.1 q x B
  rw [p0, p1]
  have u2' : ∀ q, q < s.1 - 1 → ∀ c, (stepL s S B K).2.ii q c = s.2.ii q c := fun q hq c => u2 q (by omega) c
  by_cases hh : q = s.1
  · subst hh
    rw [if_pos rfl, if_pos rfl, hx]
    obtain ⟨n, hn⟩ : ∃ n, s.1 = n + 1 := ⟨s.1 - 1, by omega⟩
    rw [hn] at u3 u4 ⊢
    rw [Nat.add_sub_cancel] at u3 u4
    rw [hn, Nat.add_sub_cancel] at u2'
    constructor
    · simp only [sm]; rw [sm_eq u2' (Nat.le_refl _), u3]; omega
    · exact u4.symm
  · rw [if_neg hh, if_neg hh, sm_eq u2' (by omega), dp_eq u2' (by omega)]
    exact ht q hq
theorem tk_app {s : Nat × Dat} {S B K : Int} (h : ¬ Mrg s S B K) {t : Dat} (ht : Tk s.1 s.2 t) (x : Int) (hx : x = sm s.2 s.1 + S) : Tk (s.1 + 1) (stepL s S B K).2 (t.app (s.1 + 1) (datS [SV.int IntKind.i64 x, SV.int IntKind.i64 B] 2)) := fun q hq => by
  obtain ⟨u1, u2, u3, u4, u5⟩ := step_app h
  obtain ⟨p0, p1⟩ := app2 t (s.1 + 1) q hq x B
  rw [p0, p1]
  by_cases hh : q = s.1 + 1
  · subst hh
    rw [if_pos rfl, if_pos rfl, hx]
    constructor
    · simp only [sm]; rw [sm_eq u2 (Nat.le_refl _), u3]
    · exact u4.symm
  · rw [if_neg hh, if_neg hh, sm_eq u2 (by omega), dp_eq u2 (by omega)]
    exact ht q (by omega)
theorem lst_next (g e : Dat) (i : Nat) : lst g e (i + 1) = stepL (lst g e i) (e.ii i 0) (e.ii i 1) (gk g e i) := rfl
theorem ni_bnd (P : Pln a b ng g L e) {i : Nat} (hi : i ≤ L) {s : Nat × Dat} (I : NI g e i s) : ∀ {q : Nat}, q ≤ s.1 → (0 ≤ sm s.2 q ∧ sm s.2 q ≤ 1000000) ∧ (0 ≤ dp s.2 q ∧ dp s.2 q ≤ 30000) := by
  have nn : ∀ q, q ≤ s.1 → 0 ≤ sm s.2 q := fun q => by
    induction q with
    | zero => exact fun _ => Int.le_refl _
    | succ q ih => intro h; have := ih (by omega); have := (I.ok q (by omega)).1; simp only [sm]; omega
  have mono : ∀ k q, q + k = s.1 → sm s.2 q ≤ sm s.2 s.1 := fun k => by
    induction k with
    | zero => intro q h; rw [show q = s.1 by omega]; exact Int.le_refl _
    | succ k ih =>
      intro q h
      have a := ih (q + 1) (by omega)
      have b := (I.ok q (by omega)).1
      simp only [sm] at a; omega
  have tot := P.sum i hi
  rw [← I.sum] at tot
  intro q hq
  have := mono (s.1 - q) q (by omega)
  refine ⟨⟨nn q hq, by omega⟩, ?_⟩
  cases q with
  | zero => exact ⟨by simp only [dp]; decide, by simp only [dp]; decide⟩
  | succ q => exact (I.ok q (by omega)).2.1
theorem prod_bnd {x y : Int} (hx : -30000 ≤ x ∧ x ≤ 30000) (hy : 0 ≤ y ∧ y ≤ 1000000) : IntKind.i64.wrap (x * y) = x * y := by
  by_cases h : 0 ≤ x
  · have := mulb h hx.2 hy.1 hy.2
    exact wr (by omega) (by omega)
  · have := mulb (show 0 ≤ -x by omega) (show -x ≤ 30000 by omega) hy.1 hy.2
    rw [Int.neg_mul] at this
    exact wr (by omega) (by omega)
theorem norm_run (P : Pln a b ng g L e) (p1 : ByteArray) (p2 : Int) : ∀ (k i f : Nat) (t o : Dat), i + k = L → k < f → Ag (lst g e i).1 o (lst g e i).2 → Tk (lst g e i).1 (lst g e i).2 t →
    ∃ t' o', l43_0 L e (L : Int) a b ng g e p1 p2 a b f ((lst g e i).1 + 1) (i : Int) (gst g e i).1 (lst g e i).1 t (gst g e i).2 o = some ((gst g e L).1, (lst g e L).1, (lst g e L).1 + 1, t', (gst g e L).1, (gst g e L).2, (lst g e L).1, o') ∧ Ag (lst g e L).1 o' (lst g e L).2
  | 0, i, f, t, o, hi, hf, hA, hT => by
    obtain ⟨f, rfl⟩ : ∃ f0, f = f0 + 1 := ⟨f - 1, by omega⟩
    obtain rfl : i = L := by omega
    exact ⟨t, o, by simp only [l43_0, cdn]; rfl, hA⟩
  | k + 1, i, f, t, o, hi, hf, hA, hT => by
    obtain ⟨f, rfl⟩ : ∃ f0, f = f0 + 1 := ⟨f - 1, by omega⟩
    have hlt : i < L := by omega
    have hL := P.legs
    have hl : ∀ j, j < L → LegOk ng e j := P.leg
    have I := ni_all (g := g) hl i (by omega)
    have G := gst_ok (g := g) hl i (by omega)
    obtain ⟨⟨l1, l2⟩, ⟨l3, l4⟩, l5, l6⟩ := hl i hlt
    have cn : (lst g e i).1 ≤ 60 := by have := I.cnt; omega
    have cg : (gst g e i).1 ≤ 60 := by have := G.le; omega
    obtain ⟨f98, m98e⟩ := m64_fnd (n := (gst g e i).1) (by omega) (gst g e i).2 (gx g e i) (gy g e i)
    have zg : decide (0 ≤ e.ii i 2 ∧ e.ii i 2 < (ng : Int)) = true := decide_eq_true ⟨l5, l6⟩
    have hb := fun {q} (hq : q ≤ (lst g e i).1) => ni_bnd P (show i ≤ L by omega) I hq
    have tot : sm (lst g e i).2 (lst g e i).1 + e.ii i 0 ≤ 1000000 := by
      have := P.sum (i + 1) (by omega); rw [I.sum]; exact this
    have wn : IntKind.i64.wrap ((((lst g e i).1 + 1 : Nat) : Int) - 1) = ((lst g e i).1 : Int) := by rw [wr (by omega) (by omega)]; omega
    have n62t : n47 ((lst g e i).1 + 1) t = true := by simp only [n47, wn, decide_eq_true (show 0 ≤ ((lst g e i).1 : Int) ∧ ((lst g e i).1 : Int) < (((lst g e i).1 + 1 : Nat) : Int) by omega)]; rfl
    have m62e : m47 ((lst g e i).1 + 1) t = sm (lst g e i).2 (lst g e i).1 := by simp only [m47, wn, Int.toNat_natCast]; exact (hT _ (by omega)).1
    have we : IntKind.i64.wrap (sm (lst g e i).2 (lst g e i).1 + e.ii i 0) = sm (lst g e i).2 (lst g e i).1 + e.ii i 0 := by
      have := hb (Nat.le_refl _); exact wr (by omega) (by omega)
    have z8 : decide ((lst g e i).1 + 1 ≤ 1073741824) = true := decide_eq_true (by omega)
    have z9 : decide ((lst g e i).1 + 1 + 1 ≤ 1073741824) = true := decide_eq_true (by omega)
    have z7 : decide ((gst g e i).1 + 1 ≤ 1073741824) = true := decide_eq_true (by omega)
    have x1 : (gst g e i).2.app (gst g e i).1 (datS [SV.int IntKind.i64 (g.ii (e.ii i 2).toNat 0), SV.int IntKind.i64 (g.ii (e.ii i 2).toNat 1)] 2) = (gst g e i).2.app (gst g e i).1 (datS [SV.int IntKind.i64 (gx g e i), SV.int IntKind.i64 (gy g e i)] 2) := rfl
    have m98e' : m64 (gst g e i).1 (gst g e i).2 (g.ii (e.ii i 2).toNat 0) (g.ii (e.ii i 2).toNat 1) = fndG (gst g e i).1 (gst g e i).2 (gx g e i) (gy g e i) := m98e
    have f98' : n64 (gst g e i).1 (gst g e i).2 (g.ii (e.ii i 2).toNat 0) (g.ii (e.ii i 2).toNat 1) = true := f98
    have mrgB : 0 < (lst g e i).1 → (m65 (t.ii ((lst g e i).1 - 1) 0) (t.ii ((lst g e i).1 - 1) 1) (t.ii (lst g e i).1 0) (t.ii (lst g e i).1 1) (sm (lst g e i).2 (lst g e i).1 + e.ii i 0) (e.ii i 1) = decide ((dp (lst g e i).2 (lst g e i).1 - dp (lst g e i).2 ((lst g e i).1 - 1)) * e.ii i 0 = (e.ii i 1 - dp (lst g e i).2 (lst g e i).1) * (lst g e i).2.ii ((lst g e i).1 - 1) 0)) := fun h0 => by
      have b0 := hb (show (lst g e i).1 - 1 ≤ (lst g e i).1 by omega)
      have b1 := hb (Nat.le_refl (lst g e i).1)
      have t0 := hT ((lst g e i).1 - 1) (by omega); have t1 := hT (lst g e i).1 (by omega)
      have so : sm (lst g e i).2 (lst g e i).1 = sm (lst g e i).2 ((lst g e i).1 - 1) + (lst g e i).2.ii ((lst g e i).1 - 1) 0 := by
        obtain ⟨n, hn⟩ : ∃ n, (lst g e i).1 = n + 1 := ⟨(lst g e i).1 - 1, by omega⟩
        rw [hn]; rfl
      have ok := (I.ok ((lst g e i).1 - 1) (by omega)).1
      have sub1 : sm (lst g e i).2 (lst g e i).1 - sm (lst g e i).2 ((lst g e i).1 - 1) = (lst g e i).2.ii ((lst g e i).1 - 1) 0 := by omega
      have sub2 : sm (lst g e i).2 (lst g e i).1 + e.ii i 0 - sm (lst g e i).2 (lst g e i).1 = e.ii i 0 := by omega
      simp only [m65, t0.1, t0.2, t1.1, t1.2]
      rw [sub1, sub2, wr (n := e.ii i 0) (by omega) (by omega), wr (n := (lst g e i).2.ii ((lst g e i).1 - 1) 0) (by omega) (by omega), wr (n := dp (lst g e i).2 (lst g e i).1 - dp (lst g e i).2 ((lst g e i).1 - 1)) (by omega) (by omega), wr (n := e.ii i 1 - dp (lst g e i).2 (lst g e i).1) (by omega) (by omega), prod_bnd (by omega) (by omega), prod_bnd (by omega) (by omega)]
    have last2 : 0 < (lst g e i).1 → o.ii ((lst g e i).1 - 1) 2 = (lst g e i).2.ii ((lst g e i).1 - 1) 2 := fun h => (hA _ (by omega)).2.2
    have last0 : 0 < (lst g e i).1 → o.ii ((lst g e i).1 - 1) 0 = (lst g e i).2.ii ((lst g e i).1 - 1) 0 := fun h => (hA _ (by omega)).1
    have next := lst_next g e i
    generalize hs : lst g e i = s at *
    have A1 : 0 < s.1 → IntKind.i64.wrap ((s.1 : Int) - 1) = (s.1 : Int) - 1 := fun h => wr (by omega) (by omega)
    have A2 : ((s.1 : Int) - 1).toNat = s.1 - 1 := by omega
    have A3 : 0 < s.1 → decide (0 ≤ (s.1 : Int) - 1 ∧ (s.1 : Int) - 1 < (s.1 : Int)) = true := fun h => decide_eq_true ⟨by omega, by omega⟩
    have A4 : 0 < s.1 → decide (s.1 - 1 < s.1) = true := fun h => decide_eq_true (by omega)
    have A5 : 0 < s.1 → decide (0 ≤ (s.1 : Int) - 1 ∧ (s.1 : Int) - 1 < ((s.1 + 1 : Nat) : Int)) = true := fun h => decide_eq_true ⟨by omega, by omega⟩
    have A6 : decide (s.1 - 1 < s.1 + 1) = true := decide_eq_true (by omega)
    have A7 : decide (0 ≤ (s.1 : Int) ∧ (s.1 : Int) < ((s.1 + 1 : Nat) : Int)) = true := decide_eq_true ⟨by omega, by omega⟩
    have A8 : decide (s.1 < s.1 + 1) = true := decide_eq_true (by omega)
    have A9 : 0 < s.1 → decide ((0 : Int) < (s.1 : Int)) = true := fun h => decide_eq_true (by omega)
    rcases gk_step (g := g) hl hlt with ⟨g1, g2⟩ | ⟨g1, g2⟩
    · have gn := gst_more g1
      have ih := fun t' o' => norm_run P p1 p2 k (i + 1) f t' o' (by omega) (by omega)
      rw [next, gn] at ih
      by_cases hm : Mrg s (e.ii i 0) (e.ii i 1) (gk g e i)
      · have h0 := hm.1
        obtain ⟨u1, _⟩ := step_mrg hm
        have q2 : o.ii (s.1 - 1) 2 = ((gst g e i).1 : Int) := by rw [last2 h0, hm.2.1, g2]
        have w0 : IntKind.i64.wrap (o.ii (s.1 - 1) 0 + e.ii i 0) = o.ii (s.1 - 1) 0 + e.ii i 0 := by
          have := hb (Nat.le_refl s.1); have ok := (I.ok (s.1 - 1) (by omega)).1
          have so : sm s.2 s.1 = sm s.2 (s.1 - 1) + s.2.ii (s.1 - 1) 0 := by
            obtain ⟨n, hn⟩ : ∃ n, s.1 = n + 1 := ⟨s.1 - 1, by omega⟩
            rw [hn]; rfl
          have := hb (show s.1 - 1 ≤ s.1 by omega)
          rw [last0 h0]; exact wr (by omega) (by omega)
        have hag : Ag s.1 ((o.upd (s.1 - 1) 0 [SV.int IntKind.i64 (o.ii (s.1 - 1) 0 + e.ii i 0)]).upd (s.1 - 1) 1 [SV.int IntKind.i64 (e.ii i 1)]) (stepL s (e.ii i 0) (e.ii i 1) (gk g e i)).2 := ag_mrg hm hA fun q hq => by
          obtain ⟨v0, v1, v2⟩ := upd1 o (s.1 - 1) q (o.ii (s.1 - 1) 0 + e.ii i 0) (e.ii i 1)
          exact ⟨v0, v1, fun hh => by rw [v2, hh, q2, g2], fun _ => v2⟩
        obtain ⟨t', o', r1, r2⟩ := ih (t.upd s.1 0 [SV.int IntKind.i64 (sm s.2 s.1 + e.ii i 0), SV.int IntKind.i64 (e.ii i 1)]) ((o.upd (s.1 - 1) 0 [SV.int IntKind.i64 (o.ii (s.1 - 1) 0 + e.ii i 0)]).upd (s.1 - 1) 1 [SV.int IntKind.i64 (e.ii i 1)]) (by rw [u1]; exact hag) (by rw [u1]; exact tk_mrg hm hT _ rfl)
        refine ⟨t', o', ?_, r2⟩
        rw [u1] at r1
        simp only [l43_0, cdl hlt, cdd hlt, Int.toNat_natCast, Nat.zero_add, Nat.le_refl, decide_true, zg, f98', m98e', decide_eq_true g1, z7, n62t, m62e, we, A1 h0, A2, A3 h0, A4 h0, A5 h0, A6, A7, A8, A9 h0, q2, mrgB h0, decide_eq_true hm.2.2, w0, x1, cond_true, cond_false, Bool.cond_self, wrS hlt (by omega)]
        exact r1
      · obtain ⟨u1, _⟩ := step_app hm
        obtain ⟨t', o', r1, r2⟩ := ih (t.app (s.1 + 1) (datS [SV.int IntKind.i64 (sm s.2 s.1 + e.ii i 0), SV.int IntKind.i64 (e.ii i 1)] 2)) (o.app s.1 (datS [SV.int IntKind.i64 (e.ii i 0), SV.int IntKind.i64 (e.ii i 1), SV.int IntKind.i64 ((gst g e i).1 : Int)] 3)) (by rw [u1]; have := ag_app hm hA; rw [g2] at this ⊢; exact this) (by rw [u1]; exact tk_app hm hT _ rfl)
        refine ⟨t', o', ?_, r2⟩
        rw [u1] at r1
        by_cases h0 : 0 < s.1
        · have nm : (bif (bif decide ((0 : Int) < (s.1 : Int)) then decide (o.ii (s.1 - 1) 2 = ((gst g e i).1 : Int)) else false) then decide ((dp s.2 s.1 - dp s.2 (s.1 - 1)) * e.ii i 0 = (e.ii i 1 - dp s.2 s.1) * s.2.ii (s.1 - 1) 0) else false) = false := by
            rw [A9 h0]
            by_cases c1 : o.ii (s.1 - 1) 2 = ((gst g e i).1 : Int)
            · rw [decide_eq_true c1]
              exact decide_eq_false fun c2 => hm ⟨h0, by rw [← last2 h0, c1, g2], c2⟩
            · rw [decide_eq_false c1]; rfl
          simp only [l43_0, cdl hlt, cdd hlt, Int.toNat_natCast, Nat.zero_add, Nat.le_refl, decide_true, zg, f98', m98e', decide_eq_true g1, z7, z8, z9, n62t, m62e, we, A1 h0, A2, A3 h0, A4 h0, A5 h0, A6, A7, A8, mrgB h0, nm, x1, cond_true, cond_false, Bool.cond_self, wrS hlt (by omega)]
          exact r1
        · have h0' : decide ((0 : Int) < (s.1 : Int)) = false := decide_eq_false (by omega)
          simp only [l43_0, cdl hlt, cdd hlt, Int.toNat_natCast, Nat.zero_add, Nat.le_refl, decide_true, zg, f98', m98e', decide_eq_true g1, z7, z8, z9, n62t, m62e, we, A7, A8, h0', x1, cond_true, cond_false, Bool.cond_self, wrS hlt (by omega)]
          exact r1
    · have gn := gst_same g1
      have ih := fun t' o' => norm_run P p1 p2 k (i + 1) f t' o' (by omega) (by omega)
      rw [next, gn] at ih
      by_cases hm : Mrg s (e.ii i 0) (e.ii i 1) (gk g e i)
      · have h0 := hm.1
        obtain ⟨u1, _⟩ := step_mrg hm
        have q2 : o.ii (s.1 - 1) 2 = fndG (gst g e i).1 (gst g e i).2 (gx g e i) (gy g e i) := by rw [last2 h0, hm.2.1, g2]
        have w0 : IntKind.i64.wrap (o.ii (s.1 - 1) 0 + e.ii i 0) = o.ii (s.1 - 1) 0 + e.ii i 0 := by
          have := hb (Nat.le_refl s.1); have ok := (I.ok (s.1 - 1) (by omega)).1
          have so : sm s.2 s.1 = sm s.2 (s.1 - 1) + s.2.ii (s.1 - 1) 0 := by
            obtain ⟨n, hn⟩ : ∃ n, s.1 = n + 1 := ⟨s.1 - 1, by omega⟩
            rw [hn]; rfl
          have := hb (show s.1 - 1 ≤ s.1 by omega)
          rw [last0 h0]; exact wr (by omega) (by omega)
        have hag : Ag s.1 ((o.upd (s.1 - 1) 0 [SV.int IntKind.i64 (o.ii (s.1 - 1) 0 + e.ii i 0)]).upd (s.1 - 1) 1 [SV.int IntKind.i64 (e.ii i 1)]) (stepL s (e.ii i 0) (e.ii i 1) (gk g e i)).2 := ag_mrg hm hA fun q hq => by
          obtain ⟨v0, v1, v2⟩ := upd1 o (s.1 - 1) q (o.ii (s.1 - 1) 0 + e.ii i 0) (e.ii i 1)
          exact ⟨v0, v1, fun hh => by rw [v2, hh, q2, g2], fun _ => v2⟩
        obtain ⟨t', o', r1, r2⟩ := ih (t.upd s.1 0 [SV.int IntKind.i64 (sm s.2 s.1 + e.ii i 0), SV.int IntKind.i64 (e.ii i 1)]) ((o.upd (s.1 - 1) 0 [SV.int IntKind.i64 (o.ii (s.1 - 1) 0 + e.ii i 0)]).upd (s.1 - 1) 1 [SV.int IntKind.i64 (e.ii i 1)]) (by rw [u1]; exact hag) (by rw [u1]; exact tk_mrg hm hT _ rfl)
        refine ⟨t', o', ?_, r2⟩
        rw [u1] at r1
        simp only [l43_0, cdl hlt, cdd hlt, Int.toNat_natCast, Nat.zero_add, Nat.le_refl, decide_true, zg, f98', m98e', decide_eq_false g1, z7, n62t, m62e, we, A1 h0, A2, A3 h0, A4 h0, A5 h0, A6, A7, A8, A9 h0, q2, mrgB h0, decide_eq_true hm.2.2, w0, x1, cond_true, cond_false, Bool.cond_self, wrS hlt (by omega)]
        exact r1
      · obtain ⟨u1, _⟩ := step_app hm
        obtain ⟨t', o', r1, r2⟩ := ih (t.app (s.1 + 1) (datS [SV.int IntKind.i64 (sm s.2 s.1 + e.ii i 0), SV.int IntKind.i64 (e.ii i 1)] 2)) (o.app s.1 (datS [SV.int IntKind.i64 (e.ii i 0), SV.int IntKind.i64 (e.ii i 1), SV.int IntKind.i64 (fndG (gst g e i).1 (gst g e i).2 (gx g e i) (gy g e i))] 3)) (by rw [u1]; have := ag_app hm hA; rw [g2] at this ⊢; exact this) (by rw [u1]; exact tk_app hm hT _ rfl)
        refine ⟨t', o', ?_, r2⟩
        rw [u1] at r1
        by_cases h0 : 0 < s.1
        · have nm : (bif (bif decide ((0 : Int) < (s.1 : Int)) then decide (o.ii (s.1 - 1) 2 = fndG (gst g e i).1 (gst g e i).2 (gx g e i) (gy g e i)) else false) then decide ((dp s.2 s.1 - dp s.2 (s.1 - 1)) * e.ii i 0 = (e.ii i 1 - dp s.2 s.1) * s.2.ii (s.1 - 1) 0) else false) = false := by
            rw [A9 h0]
            by_cases c1 : o.ii (s.1 - 1) 2 = fndG (gst g e i).1 (gst g e i).2 (gx g e i) (gy g e i)
            · rw [decide_eq_true c1]
              exact decide_eq_false fun c2 => hm ⟨h0, by rw [← last2 h0, c1, g2], c2⟩
            · rw [decide_eq_false c1]; rfl
          simp only [l43_0, cdl hlt, cdd hlt, Int.toNat_natCast, Nat.zero_add, Nat.le_refl, decide_true, zg, f98', m98e', decide_eq_false g1, z7, z8, z9, n62t, m62e, we, A1 h0, A2, A3 h0, A4 h0, A5 h0, A6, A7, A8, mrgB h0, nm, x1, cond_true, cond_false, Bool.cond_self, wrS hlt (by omega)]
          exact r1
        · have h0' : decide ((0 : Int) < (s.1 : Int)) = false := decide_eq_false (by omega)
          simp only [l43_0, cdl hlt, cdd hlt, Int.toNat_natCast, Nat.zero_add, Nat.le_refl, decide_true, zg, f98', m98e', decide_eq_false g1, z7, z8, z9, n62t, m62e, we, A7, A8, h0', x1, cond_true, cond_false, Bool.cond_self, wrS hlt (by omega)]
          exact r1
end
end Go.Proofs.YtchhhoamnagbfaaGreatDoor
namespace Go.Proofs.YtchhhoamnagbfaaGreatDoor
open Go Go.Sy
set_option linter.unusedVariables false
set_option linter.unusedSimpArgs false
set_option maxRecDepth 100000
section
variable {a : ByteArray} {b : Int} {ng : Nat} {g : Dat} {L : Nat} {e : Dat}
theorem ref0_run (P : Pln a b ng g L e) (p1 : ByteArray) (p2 : Int) : ∀ (k i f : Nat), i + k = L → k < f → l49_0 a b ng g L e p1 p2 a b f (i : Int) (gst g e i).1 (gst g e i).2 = some ((gst g e L).1, (gst g e L).1, (gst g e L).2)
  | 0, i, f, hi, hf => by
    obtain ⟨f, rfl⟩ : ∃ f0, f = f0 + 1 := ⟨f - 1, by omega⟩
    obtain rfl : i = L := by omega
    simp only [l49_0, cdn]; rfl
  | k + 1, i, f, hi, hf => by
    obtain ⟨f, rfl⟩ : ∃ f0, f = f0 + 1 := ⟨f - 1, by omega⟩
    have hlt : i < L := by omega
    have hL := P.legs
    have G := gst_ok (g := g) P.leg i (by omega)
    obtain ⟨_, _, l5, l6⟩ := P.leg i hlt
    have cg : (gst g e i).1 ≤ 60 := by have := G.le; omega
    obtain ⟨f74, m74e⟩ := m66_fnd (n := (gst g e i).1) (by omega) (gst g e i).2 (gx g e i) (gy g e i)
    have zg : decide (0 ≤ e.ii i 2 ∧ e.ii i 2 < (ng : Int)) = true := decide_eq_true ⟨l5, l6⟩
    have z7 : decide ((gst g e i).1 + 1 ≤ 1073741824) = true := decide_eq_true (by omega)
    have f74' : n66 (gst g e i).1 (gst g e i).2 (g.ii (e.ii i 2).toNat 0) (g.ii (e.ii i 2).toNat 1) = true := f74
    have m74e' : m66 (gst g e i).1 (gst g e i).2 (g.ii (e.ii i 2).toNat 0) (g.ii (e.ii i 2).toNat 1) = fndG (gst g e i).1 (gst g e i).2 (gx g e i) (gy g e i) := m74e
    have ih := ref0_run P p1 p2 k (i + 1) f (by omega) (by omega)
    by_cases h : fndG (gst g e i).1 (gst g e i).2 (gx g e i) (gy g e i) < 0
    · rw [gst_more h] at ih
      have x1 : (gst g e i).2.app (gst g e i).1 (datS [SV.int IntKind.i64 (g.ii (e.ii i 2).toNat 0), SV.int IntKind.i64 (g.ii (e.ii i 2).toNat 1)] 2) = (gst g e i).2.app (gst g e i).1 (datS [SV.int IntKind.i64 (gx g e i), SV.int IntKind.i64 (gy g e i)] 2) := rfl
      simp only [l49_0, cdl hlt, cdd hlt, Int.toNat_natCast, Nat.zero_add, Nat.le_refl, decide_true, zg, f74', m74e', decide_eq_true h, z7, x1, cond_true, cond_false, wrS hlt (by omega)]
      exact ih
    · rw [gst_same h] at ih
      simp only [l49_0, cdl hlt, cdd hlt, Int.toNat_natCast, Nat.zero_add, Nat.le_refl, decide_true, zg, f74', m74e', decide_eq_false h, cond_true, cond_false, wrS hlt (by omega)]
      exact ih
theorem ref2_run (P : Pln a b ng g L e) (p1 : ByteArray) (p2 : Int) : ∀ (k i f : Nat) (o : Dat), i + k = L → k < f → Ag (lst g e i).1 o (lst g e i).2 →
    ∃ o', l49_2 a b ng g L e p1 p2 a b (gst g e L).1 (gst g e L).1 (gst g e L).2 f (i : Int) (lst g e i).1 o = some ((lst g e L).1, (lst g e L).1, o') ∧ Ag (lst g e L).1 o' (lst g e L).2
  | 0, i, f, o, hi, hf, hA => by
    obtain ⟨f, rfl⟩ : ∃ f0, f = f0 + 1 := ⟨f - 1, by omega⟩
    obtain rfl : i = L := by omega
    exact ⟨o, by simp only [l49_2, cdn]; rfl, hA⟩
  | k + 1, i, f, o, hi, hf, hA => by
    obtain ⟨f, rfl⟩ : ∃ f0, f = f0 + 1 := ⟨f - 1, by omega⟩
    have hlt : i < L := by omega
    have hL := P.legs
    have hl : ∀ j, j < L → LegOk ng e j := P.leg
    have I := ni_all (g := g) hl i (by omega)
    have G := gst_ok (g := g) hl L (Nat.le_refl _)
    obtain ⟨⟨l1, l2⟩, ⟨l3, l4⟩, l5, l6⟩ := hl i hlt
    have cn : (lst g e i).1 ≤ 60 := by have := I.cnt; omega
    have cg : (gst g e L).1 ≤ 60 := by have := G.le; omega
    obtain ⟨f74, m74e⟩ := m66_fnd (n := (gst g e L).1) (by omega) (gst g e L).2 (gx g e i) (gy g e i)
    obtain ⟨kq, k1, _, _, _, k5, _⟩ := gk_spec (g := g) hl hlt
    rw [k5 L (by omega) (Nat.le_refl _), ← k1] at m74e
    have zg : decide (0 ≤ e.ii i 2 ∧ e.ii i 2 < (ng : Int)) = true := decide_eq_true ⟨l5, l6⟩
    have z8 : decide ((lst g e i).1 + 1 ≤ 1073741824) = true := decide_eq_true (by omega)
    have f74' : n66 (gst g e L).1 (gst g e L).2 (g.ii (e.ii i 2).toNat 0) (g.ii (e.ii i 2).toNat 1) = true := f74
    have m74e' : m66 (gst g e L).1 (gst g e L).2 (g.ii (e.ii i 2).toNat 0) (g.ii (e.ii i 2).toNat 1) = gk g e i := m74e
    have hb := fun {q} (hq : q ≤ (lst g e i).1) => ni_bnd P (show i ≤ L by omega) I hq
    have tot : sm (lst g e i).2 (lst g e i).1 + e.ii i 0 ≤ 1000000 := by
      have := P.sum (i + 1) (by omega); rw [I.sum]; exact this
    have last := fun (h : 0 < (lst g e i).1) => hA ((lst g e i).1 - 1) (by omega)
    have next := lst_next g e i
    generalize hs : lst g e i = s at *
    have A1 : 0 < s.1 → IntKind.i64.wrap ((s.1 : Int) - 1) = (s.1 : Int) - 1 := fun h => wr (by omega) (by omega)
    have A2 : ((s.1 : Int) - 1).toNat = s.1 - 1 := by omega
    have A3 : 0 < s.1 → decide (0 ≤ (s.1 : Int) - 1 ∧ (s.1 : Int) - 1 < (s.1 : Int)) = true := fun h => decide_eq_true ⟨by omega, by omega⟩
    have A4 : 0 < s.1 → decide (s.1 - 1 < s.1) = true := fun h => decide_eq_true (by omega)
    have A9 : 0 < s.1 → decide ((0 : Int) < (s.1 : Int)) = true := fun h => decide_eq_true (by omega)
    have B1 : 1 < s.1 → IntKind.i64.wrap ((s.1 : Int) - 2) = (s.1 : Int) - 2 := fun h => wr (by omega) (by omega)
    have B2 : ((s.1 : Int) - 2).toNat = s.1 - 2 := by omega
    have B3 : 1 < s.1 → decide (0 ≤ (s.1 : Int) - 2 ∧ (s.1 : Int) - 2 < (s.1 : Int)) = true := fun h => decide_eq_true ⟨by omega, by omega⟩
    have B4 : 1 < s.1 → decide (s.1 - 2 < s.1) = true := fun h => decide_eq_true (by omega)
    have ih := fun o' => ref2_run P p1 p2 k (i + 1) f o' (by omega) (by omega)
    rw [next] at ih
    -- the last leg's depth, and where it begins
    have dlast : 0 < s.1 → o.ii (s.1 - 1) 1 = dp s.2 s.1 := fun h => by
      obtain ⟨n, hn⟩ : ∃ n, s.1 = n + 1 := ⟨s.1 - 1, by omega⟩
      have := (last h).2.1
      rw [this, hn]; rfl
    have dfrom : 1 < s.1 → o.ii (s.1 - 2) 1 = dp s.2 (s.1 - 1) := fun h => by
      obtain ⟨n, hn⟩ : ∃ n, s.1 = n + 2 := ⟨s.1 - 2, by omega⟩
      have := (hA (s.1 - 2) (by omega)).2.1
      rw [this, hn]; rfl
    have dzero : s.1 = 1 → (0 : Int) = dp s.2 (s.1 - 1) := fun h => by rw [h]; rfl
    have tst : 0 < s.1 → (IntKind.i64.wrap (IntKind.i64.wrap (dp s.2 s.1 - dp s.2 (s.1 - 1)) * e.ii i 0) = IntKind.i64.wrap (IntKind.i64.wrap (e.ii i 1 - dp s.2 s.1) * o.ii (s.1 - 1) 0)) = ((dp s.2 s.1 - dp s.2 (s.1 - 1)) * e.ii i 0 = (e.ii i 1 - dp s.2 s.1) * s.2.ii (s.1 - 1) 0) := fun h0 => by
      have b0 := hb (show s.1 - 1 ≤ s.1 by omega)
      have b1 := hb (Nat.le_refl s.1)
      have so : sm s.2 s.1 = sm s.2 (s.1 - 1) + s.2.ii (s.1 - 1) 0 := by
        obtain ⟨n, hn⟩ : ∃ n, s.1 = n + 1 := ⟨s.1 - 1, by omega⟩
        rw [hn]; rfl
      have ok := (I.ok (s.1 - 1) (by omega)).1
      rw [(last h0).1, wr (n := dp s.2 s.1 - dp s.2 (s.1 - 1)) (by omega) (by omega), wr (n := e.ii i 1 - dp s.2 s.1) (by omega) (by omega), prod_bnd (by omega) (by omega), prod_bnd (by omega) (by omega)]
    by_cases hm : Mrg s (e.ii i 0) (e.ii i 1) (gk g e i)
    · have h0 := hm.1
      obtain ⟨u1, _⟩ := step_mrg hm
      have q2 : o.ii (s.1 - 1) 2 = gk g e i := by rw [(last h0).2.2]; exact hm.2.1
      have w0 : IntKind.i64.wrap (o.ii (s.1 - 1) 0 + e.ii i 0) = o.ii (s.1 - 1) 0 + e.ii i 0 := by
        have := hb (Nat.le_refl s.1); have ok := (I.ok (s.1 - 1) (by omega)).1
        have so : sm s.2 s.1 = sm s.2 (s.1 - 1) + s.2.ii (s.1 - 1) 0 := by
          obtain ⟨n, hn⟩ : ∃ n, s.1 = n + 1 := ⟨s.1 - 1, by omega⟩
          rw [hn]; rfl
        have := hb (show s.1 - 1 ≤ s.1 by omega)
        rw [(last h0).1]; exact wr (by omega) (by omega)
      have hag : Ag s.1 (o.upd (s.1 - 1) 0 [SV.int IntKind.i64 (o.ii (s.1 - 1) 0 + e.ii i 0), SV.int IntKind.i64 (e.ii i 1), SV.int IntKind.i64 (gk g e i)]) (stepL s (e.ii i 0) (e.ii i 1) (gk g e i)).2 := ag_mrg hm hA fun q hq => by
        obtain ⟨v0, v1, v2⟩ := upd3 o (s.1 - 1) q (o.ii (s.1 - 1) 0 + e.ii i 0) (e.ii i 1) (gk g e i)
        exact ⟨v0, v1, fun hh => by rw [v2, if_pos hh], fun hh => by rw [v2, if_neg hh]⟩
      obtain ⟨o', r1, r2⟩ := ih _ (by rw [u1]; exact hag)
      refine ⟨o', ?_, r2⟩
      rw [u1] at r1
      by_cases h1 : 1 < s.1
      · have z1 : decide (1 < (s.1 : Int)) = true := decide_eq_true (by omega)
        simp only [l49_2, cdl hlt, cdd hlt, Int.toNat_natCast, Nat.zero_add, Nat.le_refl, decide_true, zg, f74', m74e', A1 h0, A2, A3 h0, A4 h0, A9 h0, B1 h1, B2, B3 h1, B4 h1, z1, q2, dlast h0, dfrom h1, tst h0, decide_eq_true hm.2.2, w0, cond_true, cond_false, Bool.cond_self, wrS hlt (by omega)]
        exact r1
      · have z1 : decide (1 < (s.1 : Int)) = false := decide_eq_false (by omega)
        have t1 := tst h0
        rw [← dzero (by omega)] at t1
        have m2 := hm.2.2
        rw [← dzero (by omega)] at m2
        simp only [l49_2, cdl hlt, cdd hlt, Int.toNat_natCast, Nat.zero_add, Nat.le_refl, decide_true, zg, f74', m74e', A1 h0, A2, A3 h0, A4 h0, A9 h0, z1, q2, dlast h0, t1, decide_eq_true m2, w0, cond_true, cond_false, Bool.cond_self, wrS hlt (by omega)]
        exact r1
    · obtain ⟨u1, _⟩ := step_app hm
      obtain ⟨o', r1, r2⟩ := ih _ (by rw [u1]; exact ag_app hm hA)
      refine ⟨o', ?_, r2⟩
      rw [u1] at r1
      by_cases h0 : 0 < s.1
      · by_cases q2 : o.ii (s.1 - 1) 2 = gk g e i
        · have ne : ¬ (dp s.2 s.1 - dp s.2 (s.1 - 1)) * e.ii i 0 = (e.ii i 1 - dp s.2 s.1) * s.2.ii (s.1 - 1) 0 := fun c2 => hm ⟨h0, by rw [← (last h0).2.2]; exact q2, c2⟩
          by_cases h1 : 1 < s.1
          · have z1 : decide (1 < (s.1 : Int)) = true := decide_eq_true (by omega)
            simp only [l49_2, cdl hlt, cdd hlt, Int.toNat_natCast, Nat.zero_add, Nat.le_refl, decide_true, zg, f74', m74e', A1 h0, A2, A3 h0, A4 h0, A9 h0, B1 h1, B2, B3 h1, B4 h1, z1, z8, q2, dlast h0, dfrom h1, tst h0, decide_eq_false ne, cond_true, cond_false, Bool.cond_self, wrS hlt (by omega)]
            exact r1
          · have z1 : decide (1 < (s.1 : Int)) = false := decide_eq_false (by omega)
            have t1 := tst h0
            rw [← dzero (by omega)] at t1 ne
            simp only [l49_2, cdl hlt, cdd hlt, Int.toNat_natCast, Nat.zero_add, Nat.le_refl, decide_true, zg, f74', m74e', A1 h0, A2, A3 h0, A4 h0, A9 h0, z1, z8, q2, dlast h0, t1, decide_eq_false ne, cond_true, cond_false, Bool.cond_self, wrS hlt (by omega)]
            exact r1
        · simp only [l49_2, cdl hlt, cdd hlt, Int.toNat_natCast, Nat.zero_add, Nat.le_refl, decide_true, zg, f74', m74e', A1 h0, A2, A3 h0, A4 h0, A9 h0, z8, decide_eq_false q2, cond_true, cond_false, Bool.cond_self, wrS hlt (by omega)]
          exact r1
      · have h0' : decide ((0 : Int) < (s.1 : Int)) = false := decide_eq_false (by omega)
        simp only [l49_2, cdl hlt, cdd hlt, Int.toNat_natCast, Nat.zero_add, Nat.le_refl, decide_true, zg, f74', m74e', h0', z8, cond_true, cond_false, Bool.cond_self, wrS hlt (by omega)]
        exact r1
def IsNf (a : ByteArray) (b : Int) (g : Dat) (L : Nat) (e : Dat) (r : ByteArray × Int × Nat × Dat × Nat × Dat) : Prop :=
  r.1 = a ∧ r.2.1 = b ∧ r.2.2.1 = (if L = 0 then 1 else (gst g e L).1) ∧ (∀ q, q < r.2.2.1 → r.2.2.2.1.ii q 0 = (if L = 0 then g.ii 0 0 else (gst g e L).2.ii q 0) ∧ r.2.2.2.1.ii q 1 = (if L = 0 then g.ii 0 1 else (gst g e L).2.ii q 1)) ∧ r.2.2.2.2.1 = (lst g e L).1 ∧ Ag (lst g e L).1 r.2.2.2.2.2 (lst g e L).2
theorem normal_ok (P : Pln a b ng g L e) : n43 a b ng g L e = true ∧ IsNf a b g L e (m43 a b ng g L e) := by
  have hL := P.legs; have big := P.small; have hfew := P.few; have hsome := P.some
  obtain ⟨t', o', r1, r2⟩ := norm_run P (({ data := #[] } : ByteArray)) 0 L 0 (1 + L + (L : Int).toNat + Int.toNat 0 + a.size + b.toNat + ng + (({ data := #[] } : ByteArray)).size + Int.toNat 0 + a.size + b.toNat + 0 + 0 + 8) (datS [SV.int IntKind.i64 0, SV.int IntKind.i64 0] 2) noDat (by omega) (by omega) (fun q hq => absurd hq (Nat.not_lt_zero _)) (fun q hq => by
    obtain rfl : q = 0 := by have : q < 0 + 1 := hq; omega
    exact ⟨rfl, rfl⟩)
  have h : o43_0 L e (L : Int) a b ng g e (({ data := #[] } : ByteArray)) 0 a b 1 0 0 0 (datS [SV.int IntKind.i64 0, SV.int IntKind.i64 0] 2) noDat noDat = some ((gst g e L).1, (lst g e L).1, (lst g e L).1 + 1, t', (gst g e L).1, (gst g e L).2, (lst g e L).1, o') := r1
  have z0 : decide ((0 : Int) ≤ (0 : Int) ∧ (0 : Int) < (ng : Int)) = true := decide_eq_true (by omega)
  by_cases h0 : L = 0
  · subst h0
    have hn : (lst g e 0).1 = 0 := rfl
    have z1 : decide (((0 : Nat) : Int) = 0) = true := rfl
    refine ⟨by simp only [n43, h, hn, z0, z1, Option.getD_some, Option.isSome_some, cond_true, Nat.le_refl, Nat.zero_add, decide_true, Bool.and_self], ?_⟩
    simp only [m43, h, hn, z1, Option.getD_some, cond_true]
    refine ⟨rfl, rfl, rfl, fun q hq => ?_, rfl, r2⟩
    obtain rfl : q = 0 := by have : q < 1 := hq; omega
    exact ⟨rfl, rfl⟩
  · have I := ni_all (g := g) P.leg L (Nat.le_refl _)
    have hp := I.pos (by omega)
    have z1 : decide (((lst g e L).1 : Int) = 0) = false := decide_eq_false (by omega)
    refine ⟨by simp only [n43, h, z1, Option.getD_some, Option.isSome_some, cond_false, Nat.le_refl, Nat.zero_add, decide_true, Bool.and_self], ?_⟩
    simp only [m43, h, z1, Option.getD_some, cond_false]
    exact ⟨rfl, rfl, (if_neg h0).symm, fun q hq => by simp only [if_neg h0]; exact ⟨trivial, trivial⟩, rfl, r2⟩
theorem refNormal_ok (P : Pln a b ng g L e) : n49 a b ng g L e = true ∧ IsNf a b g L e (m49 a b ng g L e) := by
  have hL := P.legs; have big := P.small; have hfew := P.few; have hsome := P.some
  have G := gst_ok (g := g) P.leg L (Nat.le_refl _)
  have h : o49_0 a b ng g L e (({ data := #[] } : ByteArray)) 0 a b 0 0 noDat = some ((gst g e L).1, (gst g e L).1, (gst g e L).2) := ref0_run P (({ data := #[] } : ByteArray)) 0 L 0 (Int.toNat 0 + a.size + b.toNat + ng + L + (({ data := #[] } : ByteArray)).size + Int.toNat 0 + a.size + b.toNat + 0 + 8) (by omega) (by omega)
  have z0 : decide ((0 : Int) ≤ (0 : Int) ∧ (0 : Int) < (ng : Int)) = true := decide_eq_true (by omega)
  by_cases h0 : L = 0
  · subst h0
    have hc : (gst g e 0).1 = 0 := rfl
    have hd : (gst g e 0).2 = noDat := rfl
    have z1 : decide (((0 : Nat) : Int) = 0) = true := rfl
    have z2 : decide (0 + 1 ≤ 1073741824) = true := rfl
    have k2 : o49_2 a b ng g 0 e (({ data := #[] } : ByteArray)) 0 a b 1 1 ((noDat).app 0 (datS [SV.int IntKind.i64 (g.ii 0 0), SV.int IntKind.i64 (g.ii 0 1)] 2)) 0 0 noDat = some (0, 0, noDat) := by
      have : ∀ F, l49_2 a b ng g 0 e (({ data := #[] } : ByteArray)) 0 a b 1 1 ((noDat).app 0 (datS [SV.int IntKind.i64 (g.ii 0 0), SV.int IntKind.i64 (g.ii 0 1)] 2)) (F + 1) (((0 : Nat) : Int)) 0 noDat = some (0, 0, noDat) := fun F => by simp only [l49_2, cdn]; rfl
      exact this _
    refine ⟨by simp only [n49, h, hc, hd, z0, z1, z2, k2, Option.getD_some, Option.isSome_some, cond_true, Nat.le_refl, Nat.zero_add, decide_true, Bool.and_self], ?_⟩
    simp only [m49, h, hc, hd, z1, k2, Option.getD_some, cond_true, Nat.zero_add]
    refine ⟨rfl, rfl, rfl, fun q hq => ?_, rfl, fun q hq => absurd hq (Nat.not_lt_zero _)⟩
    obtain rfl : q = 0 := by have : q < 1 := hq; omega
    exact ⟨rfl, rfl⟩
  · obtain ⟨o', r1, r2⟩ := ref2_run P (({ data := #[] } : ByteArray)) 0 L 0 (Int.toNat 0 + a.size + b.toNat + ng + L + (({ data := #[] } : ByteArray)).size + Int.toNat 0 + a.size + b.toNat + (gst g e L).1 + 0 + (gst g e L).1 + 8) noDat (by omega) (by omega) (fun q hq => absurd hq (Nat.not_lt_zero _))
    have k2 : o49_2 a b ng g L e (({ data := #[] } : ByteArray)) 0 a b (gst g e L).1 (gst g e L).1 (gst g e L).2 0 0 noDat = some ((lst g e L).1, (lst g e L).1, o') := r1
    obtain ⟨q, hq, _⟩ := G.has 0 (by omega)
    have z1 : decide (((gst g e L).1 : Int) = 0) = false := decide_eq_false (by omega)
    refine ⟨by simp only [n49, h, z1, k2, Option.getD_some, Option.isSome_some, cond_false, Nat.le_refl, Nat.zero_add, decide_true, Bool.and_self], ?_⟩
    simp only [m49, h, z1, k2, Option.getD_some, cond_false]
    exact ⟨rfl, rfl, (if_neg h0).symm, fun q hq => by simp only [if_neg h0]; exact ⟨trivial, trivial⟩, rfl, r2⟩
end
end Go.Proofs.YtchhhoamnagbfaaGreatDoor
namespace Go.Proofs.YtchhhoamnagbfaaGreatDoor
open Go Go.Sy
set_option linter.unusedVariables false
set_option linter.unusedSimpArgs false
set_option maxRecDepth 100000
def On (L : Nat) (e : Dat) (s : Int) (r : Nat) : Prop := r < L ∧ sm e r < s ∧ s ≤ sm e (r + 1)
def Ln (e : Dat) (r : Nat) (s : Int) : Int := dp e r * (sm e (r + 1) - s) + dp e (r + 1) * (s - sm e r)
def Alike (g e : Dat) (r : Nat) (g' e' : Dat) (k : Nat) (s : Int) : Prop := gx g e r = gx g' e' k ∧ gy g e r = gy g' e' k ∧ Ln e r s * e'.ii k 0 = Ln e' k s * e.ii r 0
def DiffAt (L : Nat) (g e : Dat) (L' : Nat) (g' e' : Dat) (s : Int) : Prop := ∃ r k, On L e s r ∧ On L' e' s k ∧ ¬ Alike g e r g' e' k s
section
variable {a : ByteArray} {b : Int} {ng : Nat} {g : Dat} {L : Nat} {e : Dat}
theorem Pln.lt (P : Pln a b ng g L e) : ∀ {i j : Nat}, i < j → j ≤ L → sm e i < sm e j
  | i, 0, h, _ => absurd h (Nat.not_lt_zero _)
  | i, j + 1, h, hj => by
    have l := P.leg0 (show j < L by omega)
    have s : sm e (j + 1) = sm e j + e.ii j 0 := rfl
    by_cases hh : i = j
    · subst hh; omega
    · have := P.lt (i := i) (j := j) (by omega) (by omega); omega
theorem Pln.le (P : Pln a b ng g L e) {i j : Nat} (h : i ≤ j) (hj : j ≤ L) : sm e i ≤ sm e j := by
  by_cases hh : i = j
  · subst hh; exact Int.le_refl _
  · exact Int.le_of_lt (P.lt (by omega) hj)
theorem On.one (P : Pln a b ng g L e) {s : Int} {r r' : Nat} (h : On L e s r) (h' : On L e s r') : r = r' := by
  rcases Nat.lt_trichotomy r r' with c | c | c
  · have := P.le (show r + 1 ≤ r' by omega) (by have := h'.1; omega); have := h.2.2; have := h'.2.1; omega
  · exact c
  · have := P.le (show r' + 1 ≤ r by omega) (by have := h.1; omega); have := h'.2.2; have := h.2.1; omega
theorem two_points (P : Pln a b ng g L e) {D : Dat} (hD : PtsOf e (L + 1) D) {s : Int} {r : Nat} (h : On L e s r) : n31 2 (D.shift r) s = true ∧ (1 ≤ (m31 2 (D.shift r) s).2 ∧ (m31 2 (D.shift r) s).2 ≤ 1000001) ∧ (0 ≤ (m31 2 (D.shift r) s).1 ∧ (m31 2 (D.shift r) s).1 ≤ 30000030000) ∧ (m31 2 (D.shift r) s).1 * e.ii r 0 = Ln e r s * (m31 2 (D.shift r) s).2 := by
  obtain ⟨h1, h2, h3⟩ := h
  have d0 := hD r (by omega); have d1 := hD (r + 1) (by omega)
  have i0 : (D.shift r).ii 0 0 = sm e r := by rw [shift_ii]; exact d0.1
  have i1 : (D.shift r).ii 1 0 = sm e (r + 1) := by rw [shift_ii]; exact d1.1
  have j0 : (D.shift r).ii 0 1 = dp e r := by rw [shift_ii]; exact d0.2
  have j1 : (D.shift r).ii 1 1 = dp e (r + 1) := by rw [shift_ii]; exact d1.2
  have es : sm e (r + 1) = sm e r + e.ii r 0 := rfl
  have n0 := P.nonneg (show r ≤ L by omega); have t1 := P.sum (r + 1) (by omega); have l := P.leg0 h1
  have p0 := P.dep (show r ≤ L by omega); have p1 := P.dep (show r + 1 ≤ L by omega)
  have T : Trk 2 (D.shift r) := ⟨by decide, by decide, fun i hi => by
      rcases (show i = 0 ∨ i = 1 by omega) with rfl | rfl
      · rw [i0]; omega
      · rw [i1]; omega, fun i hi => by
      rcases (show i = 0 ∨ i = 1 by omega) with rfl | rfl
      · rw [j0]; exact p0
      · rw [j1]; exact p1, fun i hi => by
      obtain rfl : i = 0 := by omega
      rw [i0, i1]; omega⟩
  obtain ⟨a1, a2⟩ := at_ok T (x := s) (by rw [i0]; omega) (by rw [i1]; exact h3)
  have bd := a2.bnd T
  refine ⟨a1, bd.1, ⟨bd.2.1, by omega⟩, ?_⟩
  unfold Ln
  rcases a2 with ⟨k, hk, q1, q2, q3⟩ | ⟨k, hk, q1, q2, q3, q4⟩
  · rcases (show k = 0 ∨ k = 1 by omega) with rfl | rfl
    · rw [i0] at q1; omega
    · rw [q2, q3, j1, Int.mul_one]
      rw [i1] at q1
      rw [q1, Int.sub_self, Int.mul_zero, Int.zero_add, show sm e (r + 1) - sm e r = e.ii r 0 by omega]
  · obtain rfl : k = 0 := by omega
    rw [q3, q4, i0, i1, j0, j1, show sm e (r + 1) - sm e r = e.ii r 0 by omega]
theorem find_leg (P : Pln a b ng g L e) {D : Dat} (hD : PtsOf e (L + 1) D) {s : Int} (hs : s ≤ sm e L) (c0 : Nat) (c1 : Dat) (c2 : Int) (d0 : ByteArray) (d1 : Int) (d2 : Nat) (d3 : Dat) (d4 : Nat) (d5 : Dat) (d6 : ByteArray) (d7 : Int) (d8 : Nat) (d9 : Dat) (d10 : Nat) (d11 : Dat) (d12 : Dat) : ∀ (k i f : Nat), i + k = L → k < f → ∃ r, i ≤ r ∧ r ≤ L ∧ s ≤ sm e r ∧ (∀ j, i ≤ j → j < r → sm e j < s) ∧
    l21_2 (L + 1) D c0 c1 c2 s d0 d1 d2 d3 d4 d5 d6 d7 d8 d9 d10 d11 d12 f (i : Int) = some (r : Int)
  | 0, i, f, hi, hf => by
    obtain ⟨f, rfl⟩ : ∃ f0, f = f0 + 1 := ⟨f - 1, by omega⟩
    obtain rfl : i = L := by omega
    have z : decide (0 ≤ (i : Int) ∧ (i : Int) < ((i + 1 : Nat) : Int)) = true := decide_eq_true ⟨by omega, by omega⟩
    refine ⟨i, Nat.le_refl _, Nat.le_refl _, hs, fun j _ _ => by omega, ?_⟩
    simp only [l21_2, z, Int.toNat_natCast, (hD i (by omega)).1, decide_eq_false (show ¬ sm e i < s by omega), cond_true, cond_false]
  | k + 1, i, f, hi, hf => by
    obtain ⟨f, rfl⟩ : ∃ f0, f = f0 + 1 := ⟨f - 1, by omega⟩
    have hL := P.legs
    have z : decide (0 ≤ (i : Int) ∧ (i : Int) < ((L + 1 : Nat) : Int)) = true := decide_eq_true ⟨by omega, by omega⟩
    by_cases h : sm e i < s
    · obtain ⟨r, r1, r2, r3, r4, r5⟩ := find_leg P hD hs c0 c1 c2 d0 d1 d2 d3 d4 d5 d6 d7 d8 d9 d10 d11 d12 k (i + 1) f (by omega) (by omega)
      refine ⟨r, by omega, r2, r3, fun j j1 j2 => ?_, ?_⟩
      · by_cases hj : j = i
        · subst hj; exact h
        · exact r4 j (by omega) j2
      · simp only [l21_2, z, Int.toNat_natCast, (hD i (by omega)).1, decide_eq_true h, cond_true, wrS (show i < L + 1 by omega) (by omega)]
        exact r5
    · refine ⟨i, Nat.le_refl _, by omega, by omega, fun j _ _ => by omega, ?_⟩
      simp only [l21_2, z, Int.toNat_natCast, (hD i (by omega)).1, decide_eq_false h, cond_true, cond_false]
theorem find_leg' (P : Pln a b ng g L e) {D : Dat} (hD : PtsOf e (L + 1) D) {s : Int} (hs : s ≤ sm e L) (c0 : Nat) (c1 : Dat) (c2 : Int) (d0 : ByteArray) (d1 : Int) (d2 : Nat) (d3 : Dat) (d4 : Nat) (d5 : Dat) (d6 : ByteArray) (d7 : Int) (d8 : Nat) (d9 : Dat) (d10 : Nat) (d11 : Dat) (d12 : Dat) : ∀ (k i f : Nat), i + k = L → k < f → ∃ r, i ≤ r ∧ r ≤ L ∧ s ≤ sm e r ∧ (∀ j, i ≤ j → j < r → sm e j < s) ∧
    l21_4 c0 c1 (L + 1) D c2 s d0 d1 d2 d3 d4 d5 d6 d7 d8 d9 d10 d11 d12 f (i : Int) = some (r : Int)
  | 0, i, f, hi, hf => by
    obtain ⟨f, rfl⟩ : ∃ f0, f = f0 + 1 := ⟨f - 1, by omega⟩
    obtain rfl : i = L := by omega
    have z : decide ((0 : Int) ≤ (i : Int) ∧ (i : Int) < ((i + 1 : Nat) : Int)) = true := decide_eq_true ⟨by omega, by omega⟩
    refine ⟨i, Nat.le_refl _, Nat.le_refl _, hs, fun j _ _ => by omega, ?_⟩
    simp only [l21_4, z, Int.toNat_natCast, (hD i (by omega)).1, decide_eq_false (show ¬ sm e i < s by omega), cond_true, cond_false]
  | k + 1, i, f, hi, hf => by
    obtain ⟨f, rfl⟩ : ∃ f0, f = f0 + 1 := ⟨f - 1, by omega⟩
    have hL := P.legs
    have z : decide ((0 : Int) ≤ (i : Int) ∧ (i : Int) < ((L + 1 : Nat) : Int)) = true := decide_eq_true ⟨by omega, by omega⟩
    by_cases h : sm e i < s
    · obtain ⟨r, r1, r2, r3, r4, r5⟩ := find_leg' P hD hs c0 c1 c2 d0 d1 d2 d3 d4 d5 d6 d7 d8 d9 d10 d11 d12 k (i + 1) f (by omega) (by omega)
      refine ⟨r, by omega, r2, r3, fun j j1 j2 => ?_, ?_⟩
      · by_cases hj : j = i
        · subst hj; exact h
        · exact r4 j (by omega) j2
      · simp only [l21_4, z, Int.toNat_natCast, (hD i (by omega)).1, decide_eq_true h, cond_true, wrS (show i < L + 1 by omega) (by omega)]
        exact r5
    · refine ⟨i, Nat.le_refl _, by omega, by omega, fun j _ _ => by omega, ?_⟩
      simp only [l21_4, z, Int.toNat_natCast, (hD i (by omega)).1, decide_eq_false h, cond_true, cond_false]
end
theorem alike_frac {x y p q p' q' u v : Int} (hu : 0 < u) (hv : 0 < v) (hq : 0 < q) (hq' : 0 < q') (h1 : p * u = x * q) (h2 : p' * v = y * q') : (p * q' = p' * q ↔ x * v = y * u) := by
  constructor
  · intro h
    have : (x * v) * (q * q') = (y * u) * (q * q') := by
      have e1 : (x * v) * (q * q') = (x * q) * (v * q') := by ac_rfl
      have e2 : (y * u) * (q * q') = (y * q') * (u * q) := by ac_rfl
      rw [e1, e2, ← h1, ← h2]
      have e3 : p * u * (v * q') = (p * q') * (u * v) := by ac_rfl
      have e4 : p' * v * (u * q) = (p' * q) * (u * v) := by ac_rfl
      rw [e3, e4, h]
    exact Int.eq_of_mul_eq_mul_right (Int.ne_of_gt (Int.mul_pos hq hq')) this
  · intro h
    have : (p * q') * (u * v) = (p' * q) * (u * v) := by
      have e3 : (p * q') * (u * v) = (p * u) * (v * q') := by ac_rfl
      have e4 : (p' * q) * (u * v) = (p' * v) * (u * q) := by ac_rfl
      rw [e3, e4, h1, h2]
      have e1 : x * q * (v * q') = (x * v) * (q * q') := by ac_rfl
      have e2 : y * q' * (u * q) = (y * u) * (q * q') := by ac_rfl
      rw [e1, e2, h]
    exact Int.eq_of_mul_eq_mul_right (Int.ne_of_gt (Int.mul_pos hu hv)) this
section
variable {a : ByteArray} {b : Int} {ng : Nat} {g : Dat} {L : Nat} {e : Dat} {a' : ByteArray} {b' : Int} {ng' : Nat} {g' : Dat} {L' : Nat} {e' : Dat}
def Found (L : Nat) (g e : Dat) (L' : Nat) (g' e' : Dat) (M s : Nat) (r : Bool × (Int × Int) × Unit) : Prop :=
  (r = (false, default, ()) ∧ ∀ s' : Nat, s ≤ s' → s' ≤ M → (s' : Int) ≤ sm e L ∧ (s' : Int) ≤ sm e' L' ∧ ¬ DiffAt L g e L' g' e' s') ∨
  ∃ s1 : Nat, s ≤ s1 ∧ s1 ≤ M ∧ r = (true, ((s1 : Int), 0), default) ∧ (∀ s' : Nat, s ≤ s' → s' < s1 → (s' : Int) ≤ sm e L ∧ (s' : Int) ≤ sm e' L' ∧ ¬ DiffAt L g e L' g' e' s') ∧ (sm e L < (s1 : Int) ∨ sm e' L' < (s1 : Int) ∨ DiffAt L g e L' g' e' s1)
theorem Found.back {M s : Nat} {r : Bool × (Int × Int) × Unit} (h0 : (s : Int) ≤ sm e L ∧ (s : Int) ≤ sm e' L' ∧ ¬ DiffAt L g e L' g' e' s) (h : Found L g e L' g' e' M (s + 1) r) : Found L g e L' g' e' M s r := by
  rcases h with ⟨h1, h2⟩ | ⟨s1, h1, h2, h3, h4, h5⟩
  · refine .inl ⟨h1, fun s' k1 k2 => ?_⟩
    by_cases hs : s' = s
    · subst hs; exact h0
    · exact h2 s' (by omega) k2
  · refine .inr ⟨s1, by omega, h2, h3, fun s' k1 k2 => ?_, h5⟩
    by_cases hs : s' = s
    · subst hs; exact h0
    · exact h4 s' (by omega) k2
theorem differ_run (P : Pln a b ng g L e) (Q : Pln a' b' ng' g' L' e') {D D' : Dat} (hD : PtsOf e (L + 1) D) (hD' : PtsOf e' (L' + 1) D') (x : Dat) (M : Nat) (hM : (M : Int) = imax (sm e L) (sm e' L')) :
    ∀ (k s i j f : Nat), s + k = M + 1 → k < f → 1 ≤ i → 1 ≤ j → (1 ≤ s → (i ≤ L ∨ sm e L < (s : Int)) ∧ (j ≤ L' ∨ sm e' L' < (s : Int)) ∧ (∀ q, q < i → q ≤ L → sm e q < (s : Int)) ∧ (∀ q, q < j → q ≤ L' → sm e' q < (s : Int))) → (s = 0 → i = 1 ∧ j = 1) →
    ∃ r, l21_0 (L + 1) D (L' + 1) D' a b ng g L e a' b' ng' g' L' e' x f (i : Int) (j : Int) (s : Int) = some r ∧ Found L g e L' g' e' M s r
  | 0, s, i, j, f, hs, hf, hi, hj, hI, h00 => by
    obtain ⟨f, rfl⟩ : ∃ f0, f = f0 + 1 := ⟨f - 1, by omega⟩
    obtain ⟨e1, e2⟩ := end_ok P hD
    obtain ⟨k1, k2⟩ := end_ok Q hD'
    have z : decide ((s : Int) ≤ imax (sm e L) (sm e' L')) = false := decide_eq_false (by omega)
    exact ⟨(false, default, ()), by simp only [l21_0, e1, e2, k1, k2, z, cond_true, cond_false], .inl ⟨rfl, fun s' h1 h2 => by omega⟩⟩
  | k + 1, s, i, j, f, hs, hf, hi, hj, hI, h00 => by
    obtain ⟨f, rfl⟩ : ∃ f0, f = f0 + 1 := ⟨f - 1, by omega⟩
    obtain ⟨e1, e2⟩ := end_ok P hD
    obtain ⟨k1, k2⟩ := end_ok Q hD'
    have hL := P.legs; have hL' := Q.legs
    have tP := P.sum L (Nat.le_refl _); have tQ := Q.sum L' (Nat.le_refl _)
    have nP := P.nonneg (Nat.le_refl L); have nQ := Q.nonneg (Nat.le_refl L')
    have z : decide ((s : Int) ≤ imax (sm e L) (sm e' L')) = true := decide_eq_true (by omega)
    have hMb : (M : Int) ≤ 1000000 := by rw [hM]; unfold imax; split <;> omega
    have ws : IntKind.i64.wrap ((s : Int) + 1) = ((s + 1 : Nat) : Int) := by rw [wr (by omega) (by omega)]; omega
    by_cases c1 : sm e L < (s : Int)
    · refine ⟨(true, ((s : Int), 0), default), ?_, .inr ⟨s, Nat.le_refl _, by omega, rfl, fun s' h1 h2 => by omega, .inl c1⟩⟩
      simp only [l21_0, e1, e2, k1, k2, z, decide_eq_true c1, cond_true, cond_false, Bool.cond_self]
    by_cases c2 : sm e' L' < (s : Int)
    · refine ⟨(true, ((s : Int), 0), default), ?_, .inr ⟨s, Nat.le_refl _, by omega, rfl, fun s' h1 h2 => by omega, .inr (.inl c2)⟩⟩
      simp only [l21_0, e1, e2, k1, k2, z, decide_eq_false c1, decide_eq_true c2, cond_true, cond_false, Bool.cond_self]
    by_cases hz : s = 0
    · subst hz
      obtain ⟨rfl, rfl⟩ := h00 rfl
      obtain ⟨r, r1, r2⟩ := differ_run P Q hD hD' x M hM k 1 1 1 f (by omega) (by omega) (by omega) (by omega) (fun _ => ⟨by
          by_cases h : 1 ≤ L
          · exact .inl h
          · right; rw [show L = 0 by omega]; simp only [sm]; decide, by
          by_cases h : 1 ≤ L'
          · exact .inl h
          · right; rw [show L' = 0 by omega]; simp only [sm]; decide, fun q h _ => by rw [show q = 0 by omega]; simp only [sm]; decide, fun q h _ => by rw [show q = 0 by omega]; simp only [sm]; decide⟩) (fun h => by omega)
      refine ⟨r, ?_, r2.back ⟨by omega, by omega, fun ⟨r, k, h1, _⟩ => ?_⟩⟩
      · have z0 : decide (((0 : Nat) : Int) = 0) = true := rfl
        have ws' : IntKind.i64.wrap (((0 : Nat) : Int) + 1) = ((1 : Nat) : Int) := ws
        simp only [l21_0, e1, e2, k1, k2, z, decide_eq_false c1, decide_eq_false c2, z0, ws', cond_true, cond_false, Bool.cond_self]
        exact r1
      · have := h1.2.1; have := P.nonneg (show r ≤ L by have := h1.1; omega); omega
    obtain ⟨hI1, hJ1, hI2, hJ2⟩ := hI (by omega)
    have hiL : i ≤ L := by rcases hI1 with h | h <;> omega
    have hjL : j ≤ L' := by rcases hJ1 with h | h <;> omega
    have z0 : decide ((s : Int) = 0) = false := decide_eq_false (by omega)
    obtain ⟨r, r1, r2, r3, r4, r5⟩ := find_leg P hD (s := (s : Int)) (by omega) (L' + 1) D' (j : Int) a b ng g L e a' b' ng' g' L' e' x (L - i) i (L + 1 + (L' + 1) + (i : Int).toNat + (j : Int).toNat + (s : Int).toNat + a.size + b.toNat + ng + L + a'.size + b'.toNat + ng' + L' + 8) (by omega) (by omega)
    have o2 : o21_2 (L + 1) D (L' + 1) D' (j : Int) (s : Int) a b ng g L e a' b' ng' g' L' e' x (i : Int) = some (r : Int) := r5
    obtain ⟨q, q1, q2, q3, q4, q5⟩ := find_leg' Q hD' (s := (s : Int)) (by omega) (L + 1) D (r : Int) a b ng g L e a' b' ng' g' L' e' x (L' - j) j (L + 1 + (L' + 1) + (r : Int).toNat + (j : Int).toNat + (s : Int).toNat + a.size + b.toNat + ng + L + a'.size + b'.toNat + ng' + L' + 8) (by omega) (by omega)
    have o4 : o21_4 (L + 1) D (L' + 1) D' (r : Int) (s : Int) a b ng g L e a' b' ng' g' L' e' x (j : Int) = some (q : Int) := q5
    have onP : On L e (s : Int) (r - 1) := ⟨by omega, by
      by_cases h : i ≤ r - 1
      · exact r4 (r - 1) h (by omega)
      · exact hI2 (r - 1) (by omega) (by omega), by rw [show r - 1 + 1 = r by omega]; exact r3⟩
    have onQ : On L' e' (s : Int) (q - 1) := ⟨by omega, by
      by_cases h : j ≤ q - 1
      · exact q4 (q - 1) h (by omega)
      · exact hJ2 (q - 1) (by omega) (by omega), by rw [show q - 1 + 1 = q by omega]; exact q3⟩
    obtain ⟨u1, u2, u3, u4⟩ := two_points P hD onP
    obtain ⟨v1, v2, v3, v4⟩ := two_points Q hD' onQ
    have lp := P.leg (r - 1) (by omega); have lq := Q.leg (q - 1) (by omega)
    have lp0 : 1 ≤ e.ii (r - 1) 0 := lp.1.1
    have lq0 : 1 ≤ e'.ii (q - 1) 0 := lq.1.1
    have w1 : IntKind.i64.wrap ((r : Int) - 1) = (r : Int) - 1 := wr (by omega) (by omega)
    have w2 : IntKind.i64.wrap ((q : Int) - 1) = (q : Int) - 1 := wr (by omega) (by omega)
    have w3 : IntKind.i64.wrap ((r : Int) + 1) = (r : Int) + 1 := wr (by omega) (by omega)
    have w4 : IntKind.i64.wrap ((q : Int) + 1) = (q : Int) + 1 := wr (by omega) (by omega)
    have x1 : ((r : Int) - 1).toNat = r - 1 := by omega
    have x2 : ((q : Int) - 1).toNat = q - 1 := by omega
    have x3 : ((r : Int) + 1 - ((r : Int) - 1)).toNat = 2 := by omega
    have x4 : ((q : Int) + 1 - ((q : Int) - 1)).toNat = 2 := by omega
    have y1 : decide (0 ≤ (r : Int) - 1 ∧ (r : Int) - 1 < (L : Int)) = true := decide_eq_true ⟨by omega, by omega⟩
    have y2 : decide (0 ≤ (q : Int) - 1 ∧ (q : Int) - 1 < (L' : Int)) = true := decide_eq_true ⟨by omega, by omega⟩
    have y3 : decide (0 ≤ e.ii (r - 1) 2 ∧ e.ii (r - 1) 2 < (ng : Int)) = true := decide_eq_true lp.2.2
    have y4 : decide (0 ≤ e'.ii (q - 1) 2 ∧ e'.ii (q - 1) 2 < (ng' : Int)) = true := decide_eq_true lq.2.2
    have y5 : decide (0 ≤ (r : Int) - 1 ∧ (r : Int) - 1 ≤ (r : Int) + 1 ∧ (r : Int) + 1 ≤ ((L + 1 : Nat) : Int)) = true := decide_eq_true ⟨by omega, by omega, by omega⟩
    have y6 : decide (0 ≤ (q : Int) - 1 ∧ (q : Int) - 1 ≤ (q : Int) + 1 ∧ (q : Int) + 1 ≤ ((L' + 1 : Nat) : Int)) = true := decide_eq_true ⟨by omega, by omega, by omega⟩
    have same : m48 (m31 2 (D.shift (r - 1)) (s : Int)).1 (m31 2 (D.shift (r - 1)) (s : Int)).2 (m31 2 (D'.shift (q - 1)) (s : Int)).1 (m31 2 (D'.shift (q - 1)) (s : Int)).2 = decide (Ln e (r - 1) (s : Int) * e'.ii (q - 1) 0 = Ln e' (q - 1) (s : Int) * e.ii (r - 1) 0) := by
      have p1 := mulb u3.1 u3.2 (show 0 ≤ (m31 2 (D'.shift (q - 1)) (s : Int)).2 by omega) v2.2
      have p2 := mulb v3.1 v3.2 (show 0 ≤ (m31 2 (D.shift (r - 1)) (s : Int)).2 by omega) u2.2
      simp only [m48]
      rw [wr (n := (m31 2 (D.shift (r - 1)) (s : Int)).1 * (m31 2 (D'.shift (q - 1)) (s : Int)).2) (by omega) (by omega), wr (n := (m31 2 (D'.shift (q - 1)) (s : Int)).1 * (m31 2 (D.shift (r - 1)) (s : Int)).2) (by omega) (by omega)]
      exact decide_eq_decide.2 (alike_frac (by omega) (by omega) (by omega) (by omega) u4 v4)
    obtain ⟨f1, f2, f3⟩ : ∃ r', (∀ t9 t10, True) ∧ (l21_0 (L + 1) D (L' + 1) D' a b ng g L e a' b' ng' g' L' e' x f (r : Int) (q : Int) ((s + 1 : Nat) : Int) = some r' ∧ Found L g e L' g' e' M (s + 1) r') := by
      obtain ⟨r', k1', k2'⟩ := differ_run P Q hD hD' x M hM k (s + 1) r q f (by omega) (by omega) (by omega) (by omega) (fun _ => ⟨.inl (by omega), .inl (by omega), fun p h1 h2 => by
          by_cases h : i ≤ p
          · have := r4 p h h1; omega
          · have := hI2 p (by omega) h2; omega, fun p h1 h2 => by
          by_cases h : j ≤ p
          · have := q4 p h h1; omega
          · have := hJ2 p (by omega) h2; omega⟩) (fun h => by omega)
      exact ⟨r', fun (_ _ : Nat) => trivial, k1', k2'⟩
    have gas0 : g.ii (e.ii (r - 1) 2).toNat 0 = gx g e (r - 1) := rfl
    have gas1 : g.ii (e.ii (r - 1) 2).toNat 1 = gy g e (r - 1) := rfl
    have gas2 : g'.ii (e'.ii (q - 1) 2).toNat 0 = gx g' e' (q - 1) := rfl
    have gas3 : g'.ii (e'.ii (q - 1) 2).toNat 1 = gy g' e' (q - 1) := rfl
    by_cases hA : Alike g e (r - 1) g' e' (q - 1) (s : Int)
    · obtain ⟨hA1, hA2, hA3⟩ := hA
      refine ⟨f1, ?_, f3.2.back ⟨by omega, by omega, fun ⟨r', q', h1, h2, h3⟩ => ?_⟩⟩
      · simp only [l21_0, e1, e2, k1, k2, z, decide_eq_false c1, decide_eq_false c2, z0, o2, o4, Option.isSome_some, Option.getD_some, w1, w2, w3, w4, x1, x2, x3, x4, y1, y2, y3, y4, y5, y6, gas0, gas1, gas2, gas3, hA1, hA2, u1, v1, same, hA3, ws, decide_true, cond_true, cond_false, Bool.cond_self]
        exact f3.1
      · obtain rfl := h1.one P onP
        obtain rfl := h2.one Q onQ
        exact h3 ⟨hA1, hA2, hA3⟩
    · refine ⟨(true, ((s : Int), 0), default), ?_, .inr ⟨s, Nat.le_refl _, by omega, rfl, fun s' h1 h2 => by omega, .inr (.inr ⟨_, _, onP, onQ, hA⟩)⟩⟩
      by_cases b1 : gx g e (r - 1) = gx g' e' (q - 1)
      · by_cases b2 : gy g e (r - 1) = gy g' e' (q - 1)
        · have b3 : ¬ Ln e (r - 1) (s : Int) * e'.ii (q - 1) 0 = Ln e' (q - 1) (s : Int) * e.ii (r - 1) 0 := fun h => hA ⟨b1, b2, h⟩
          simp only [l21_0, e1, e2, k1, k2, z, decide_eq_false c1, decide_eq_false c2, z0, o2, o4, Option.isSome_some, Option.getD_some, w1, w2, w3, w4, x1, x2, x3, x4, y1, y2, y3, y4, y5, y6, gas0, gas1, gas2, gas3, b1, b2, u1, v1, same, decide_eq_false b3, decide_true, cond_true, cond_false, Bool.cond_self]
        · simp only [l21_0, e1, e2, k1, k2, z, decide_eq_false c1, decide_eq_false c2, z0, o2, o4, Option.isSome_some, Option.getD_some, w1, w2, w3, w4, x1, x2, x3, x4, y1, y2, y3, y4, y5, y6, gas0, gas1, gas2, gas3, b1, decide_eq_false b2, u1, v1, decide_true, cond_true, cond_false, Bool.cond_self]
      · simp only [l21_0, e1, e2, k1, k2, z, decide_eq_false c1, decide_eq_false c2, z0, o2, o4, Option.isSome_some, Option.getD_some, w1, w2, w3, w4, x1, x2, x3, x4, y1, y2, y3, y4, y5, y6, gas0, gas1, gas2, gas3, decide_eq_false b1, u1, v1, decide_true, cond_true, cond_false, Bool.cond_self]
theorem differ_ok (P : Pln a b ng g L e) (Q : Pln a' b' ng' g' L' e') : n21 a b ng g L e a' b' ng' g' L' e' = true ∧ ∃ M : Nat, (M : Int) = imax (sm e L) (sm e' L') ∧ ∃ r, Found L g e L' g' e' M 0 r ∧ m21 a b ng g L e a' b' ng' g' L' e' = cond r.1 (r.2.1.1, r.2.1.2) (0, 12) := by
  have ha := P.small; have ha' := Q.small
  have hL := P.legs; have hL' := Q.legs; have hg := P.few; have hg' := Q.few
  obtain ⟨t1, D, t2, t3⟩ := track_ok P
  obtain ⟨s1, D', s2, s3⟩ := track_ok Q
  obtain ⟨p1, p2⟩ := two_plans a b ng g L e a' b' ng' g' L' e' (by omega) (by omega) (by omega) (by omega) (by omega) (by omega)
  have q1 := (plan_ok a b ng g L e (by omega) (by omega) (by omega)).2.2.2.2 P
  have q2 := (plan_ok a' b' ng' g' L' e' (by omega) (by omega) (by omega)).2.2.2.2 Q
  rw [q1, q2] at p2
  have p2 : _ = (0 : Int) := p2
  have nP := P.nonneg (Nat.le_refl L); have nQ := Q.nonneg (Nat.le_refl L')
  obtain ⟨e1, e2⟩ := end_ok P t3
  obtain ⟨k1, k2⟩ := end_ok Q s3
  refine ⟨?_, (imax (sm e L) (sm e' L')).toNat, ?_⟩
  all_goals
    have hM : (((imax (sm e L) (sm e' L')).toNat : Nat) : Int) = imax (sm e L) (sm e' L') := Int.toNat_of_nonneg (by unfold imax; split <;> omega)
    have hMl : (imax (sm e L) (sm e' L')).toNat ≤ (sm e L).toNat + (sm e' L').toNat := by unfold imax; split <;> omega
    obtain ⟨r, r1, r2⟩ := differ_run P Q t3 s3 (datS [SV.str a, SV.int IntKind.i64 b, SV.ro [Kd.int IntKind.i64, Kd.int IntKind.i64] ng g, SV.ro [Kd.int IntKind.i64, Kd.int IntKind.i64, Kd.int IntKind.i64] L e, SV.str a', SV.int IntKind.i64 b', SV.ro [Kd.int IntKind.i64, Kd.int IntKind.i64] ng' g', SV.ro [Kd.int IntKind.i64, Kd.int IntKind.i64, Kd.int IntKind.i64] L' e'] 4) _ hM ((imax (sm e L) (sm e' L')).toNat + 1) 0 1 1 ((m47 (L + 1) D).toNat + (m47 (L' + 1) D').toNat + 8) (by omega) (by rw [e2, k2]; omega) (by omega) (by omega) (fun h => by omega) (fun _ => ⟨rfl, rfl⟩)
    have h : o21_0 (L + 1) D (L' + 1) D' a b ng g L e a' b' ng' g' L' e' (datS [SV.str a, SV.int IntKind.i64 b, SV.ro [Kd.int IntKind.i64, Kd.int IntKind.i64] ng g, SV.ro [Kd.int IntKind.i64, Kd.int IntKind.i64, Kd.int IntKind.i64] L e, SV.str a', SV.int IntKind.i64 b', SV.ro [Kd.int IntKind.i64, Kd.int IntKind.i64] ng' g', SV.ro [Kd.int IntKind.i64, Kd.int IntKind.i64, Kd.int IntKind.i64] L' e'] 4) 1 1 0 = some r := r1
  · simp only [n21, p1, p2, t1, t2, s1, s2, h, Option.isSome_some, decide_true, cond_true, cond_false, Bool.and_self]
  · refine ⟨hM, r, r2, ?_⟩
    simp only [m21, p2, t2, s2, h, Option.getD_some, decide_true, cond_true, cond_false]
end
end Go.Proofs.YtchhhoamnagbfaaGreatDoor
namespace Go.Proofs.YtchhhoamnagbfaaGreatDoor
open Go Go.Sy
set_option linter.unusedVariables false
set_option linter.unusedSimpArgs false
set_option maxRecDepth 100000
section
variable {a : ByteArray} {b : Int} {ng : Nat} {g : Dat} {L : Nat} {e : Dat}
theorem pln_trk (P : Pln a b ng g L e) {D : Dat} (hD : PtsOf e (L + 1) D) (h : 0 < L) : Trk (L + 1) D := by
  have hL := P.legs
  refine ⟨by omega, by omega, fun i hi => ?_, fun i hi => ?_, fun i hi => ?_⟩
  · rw [(hD i hi).1]; have := P.nonneg (show i ≤ L by omega); have := P.sum i (by omega); omega
  · rw [(hD i hi).2]; exact P.dep (by omega)
  · rw [(hD i (by omega)).1, (hD (i + 1) hi).1]; exact P.lt (by omega) (by omega)
theorem plan_at (P : Pln a b ng g L e) {D : Dat} (hD : PtsOf e (L + 1) D) {s : Int} (h0 : 0 ≤ s) (h1 : s ≤ sm e L) : n31 (L + 1) D s = true ∧ (1 ≤ (m31 (L + 1) D s).2 ∧ (m31 (L + 1) D s).2 ≤ 1000001) ∧ (0 ≤ (m31 (L + 1) D s).1 ∧ (m31 (L + 1) D s).1 ≤ 30000030000) ∧ (s = 0 → m31 (L + 1) D s = (0, 1)) ∧
    (0 < s → ∃ r, On L e s r ∧ n35 (L + 1) D s = true ∧ m35 (L + 1) D s = ((r + 1 : Nat) : Int) ∧ (m31 (L + 1) D s).1 * e.ii r 0 = Ln e r s * (m31 (L + 1) D s).2) := by
  by_cases hL0 : L = 0
  · subst hL0
    have hs : s = 0 := by have : sm e 0 = 0 := rfl; omega
    subst hs
    have d0 := hD 0 (by decide)
    have z : D.ii 0 0 = 0 := d0.1
    have z1 : D.ii 0 1 = 0 := d0.2
    have o79 : o59c60_0 (((0 + 1 : Nat) : Int) - 1).toNat (D.shift 1) (datC [SV.int IntKind.i64 0]) ((((((0 + 1 : Nat) : Int) - 1).toNat : Nat) : Int)) 0 = some (false, default, ()) := by kernel_rfl
    have m79e : m35 (0 + 1) D 0 = 0 := by
      simp only [m35, m59c60, o79, Option.getD_some, cond_false]; decide
    have n79e : n35 (0 + 1) D 0 = true := by
      simp only [n35, n59c60, o79, Option.isSome_some]; rfl
    have e53 : m31 (0 + 1) D 0 = (0, 1) := by simp only [m31, m79e, z, z1, decide_true, cond_true]
    refine ⟨by simp only [n31, n79e, m79e, z, decide_true, cond_true, cond_false, Bool.cond_self]; rfl, by rw [e53]; exact ⟨by decide, by decide⟩, by rw [e53]; exact ⟨by decide, by decide⟩, fun _ => e53, fun h => absurd h (Int.lt_irrefl _)⟩
  · have T := pln_trk P hD (by omega)
    have hL := P.legs
    have z0 : D.ii 0 0 = 0 := (hD 0 (by omega)).1
    have zL : D.ii (L + 1 - 1) 0 = sm e L := (hD L (by omega)).1
    obtain ⟨a1, a2⟩ := at_ok T (x := s) (by rw [z0]; exact h0) (by rw [zL]; exact h1)
    have bd := a2.bnd T
    refine ⟨a1, bd.1, ⟨bd.2.1, by omega⟩, fun hs => ?_, fun hs => ?_⟩
    · subst hs
      have := a2
      rw [← z0] at this
      obtain ⟨u1, u2⟩ := this.at_point T (k := 0) (by omega)
      have d1 : D.ii 0 1 = 0 := (hD 0 (by omega)).2
      rw [z0] at u1 u2
      rw [d1] at u1
      exact Prod.ext u1 u2
    · obtain ⟨l1, r, r1, r2, r3, r4, r5⟩ := leg_ok T (x := s) (by rw [zL]; exact h1)
      have on : On L e s (r - 1) := by
        refine ⟨by omega, ?_, ?_⟩
        · by_cases hr : r = 1
          · subst hr; exact hs
          · have := r4 (r - 1) (by omega) (by omega)
            rw [(hD (r - 1) (by omega)).1] at this; exact this
        · rw [show r - 1 + 1 = r by omega, ← (hD r r2).1]; exact r3
      refine ⟨r - 1, on, l1, by rw [r5]; congr 1; omega, ?_⟩
      have es : sm e (r - 1 + 1) = sm e (r - 1) + e.ii (r - 1) 0 := rfl
      unfold Ln
      rcases a2 with ⟨k, hk, q1, q2, q3⟩ | ⟨k, hk, q1, q2, q3, q4⟩
      · rw [(hD k hk).1] at q1
        have hkr : k = r - 1 + 1 := by
          obtain ⟨o1, o2, o3⟩ := on
          rcases Nat.lt_trichotomy k (r - 1 + 1) with c | c | c
          · have := P.le (show k ≤ r - 1 by omega) (by omega); omega
          · exact c
          · have := P.lt (show r - 1 + 1 < k by omega) (by omega); omega
        rw [q2, q3, (hD k hk).2, Int.mul_one, q1, hkr, Int.sub_self, Int.mul_zero, Int.zero_add, show sm e (r - 1 + 1) - sm e (r - 1) = e.ii (r - 1) 0 by omega]
      · rw [(hD k (by omega)).1] at q1
        rw [(hD (k + 1) hk).1] at q2
        have onk : On L e s k := ⟨by omega, q1, Int.le_of_lt q2⟩
        obtain rfl := onk.one P on
        rw [q3, q4, (hD (r - 1) (by omega)).1, (hD (r - 1 + 1) hk).1, (hD (r - 1) (by omega)).2, (hD (r - 1 + 1) hk).2, show sm e (r - 1 + 1) - sm e (r - 1) = e.ii (r - 1) 0 by omega]
end
end Go.Proofs.YtchhhoamnagbfaaGreatDoor
namespace Go.Proofs.YtchhhoamnagbfaaGreatDoor
open Go Go.Sy
set_option linter.unusedVariables false
set_option linter.unusedSimpArgs false
set_option maxRecDepth 100000
section
variable {a : ByteArray} {b : Int} {ng : Nat} {g : Dat} {L : Nat} {e : Dat} {c : Nat} {G : Dat} {n : Nat} {o : Dat}
theorem nf_alike {r r' : ByteArray × Int × Nat × Dat × Nat × Dat} (h : IsNf a b g L e r) (h' : IsNf a b g L e r') : r.1 = r'.1 ∧ r.2.1 = r'.2.1 ∧ r.2.2.1 = r'.2.2.1 ∧ (∀ q, q < r.2.2.1 → r.2.2.2.1.ii q 0 = r'.2.2.2.1.ii q 0 ∧ r.2.2.2.1.ii q 1 = r'.2.2.2.1.ii q 1) ∧ r.2.2.2.2.1 = r'.2.2.2.2.1 ∧ Ag r.2.2.2.2.1 r.2.2.2.2.2 r'.2.2.2.2.2 := by
  obtain ⟨a1, a2, a3, a4, a5, a6⟩ := h
  obtain ⟨b1, b2, b3, b4, b5, b6⟩ := h'
  refine ⟨a1.trans b1.symm, a2.trans b2.symm, a3.trans b3.symm, fun q hq => ?_, a5.trans b5.symm, fun q hq => ?_⟩
  · have x := a4 q hq; have y := b4 q (by rw [b3, ← a3]; exact hq)
    exact ⟨x.1.trans y.1.symm, x.2.trans y.2.symm⟩
  · have x := a6 q (by rw [← a5]; exact hq); have y := b6 q (by rw [← a5]; exact hq)
    exact ⟨x.1.trans y.1.symm, x.2.1.trans y.2.1.symm, x.2.2.trans y.2.2.symm⟩
end
end Go.Proofs.YtchhhoamnagbfaaGreatDoor
namespace Go.Proofs.YtchhhoamnagbfaaGreatDoor
open Go Go.Sy
set_option linter.unusedVariables false
set_option linter.unusedSimpArgs false
set_option maxRecDepth 100000
theorem gst_congr {g e e' : Dat} : ∀ {i : Nat}, (∀ j, j < i → e.ii j 2 = e'.ii j 2) → gst g e i = gst g e' i
  | 0, _ => rfl
  | i + 1, h => by
    have x : gx g e i = gx g e' i := by unfold gx; rw [h i (Nat.lt_succ_self i)]
    have y : gy g e i = gy g e' i := by unfold gy; rw [h i (Nat.lt_succ_self i)]
    rw [gst, gst, gst_congr (i := i) fun j hj => h j (by omega), x, y]
theorem gk_congr {g e e' : Dat} {i : Nat} (h : ∀ j, j < i + 1 → e.ii j 2 = e'.ii j 2) : gk g e i = gk g e' i := by
  unfold gk gx gy
  rw [gst_congr h, h i (Nat.lt_succ_self i)]
theorem lst_congr {g e e' : Dat} : ∀ {i : Nat}, Ag i e e' → lst g e i = lst g e' i
  | 0, _ => rfl
  | i + 1, h => by
    rw [lst_next, lst_next, lst_congr (i := i) fun j hj => h j (by omega), (h i (Nat.lt_succ_self i)).1, (h i (Nat.lt_succ_self i)).2.1, gk_congr fun j hj => (h j hj).2.2]
theorem mrg_iff {s s' : Nat × Dat} (h1 : s.1 = s'.1) (h2 : Ag s.1 s.2 s'.2) {S B K : Int} (m : Mrg s S B K) : Mrg s' S B K := by
  obtain ⟨m0, m1, m2⟩ := m
  obtain ⟨x0, x1, x2⟩ := h2 (s.1 - 1) (by omega)
  refine ⟨by omega, by rw [← h1, ← x2]; exact m1, ?_⟩
  rw [← h1, ← Ag.dp h2 (Nat.le_refl _), ← Ag.dp h2 (by omega), ← x0]; exact m2
theorem ag_symm {n : Nat} {o o' : Dat} (h : Ag n o o') : Ag n o' o := fun q hq => ⟨(h q hq).1.symm, (h q hq).2.1.symm, (h q hq).2.2.symm⟩
theorem step_ag {s s' : Nat × Dat} (h1 : s.1 = s'.1) (h2 : Ag s.1 s.2 s'.2) (S B K : Int) : (stepL s S B K).1 = (stepL s' S B K).1 ∧ Ag (stepL s S B K).1 (stepL s S B K).2 (stepL s' S B K).2 := by
  by_cases m : Mrg s S B K
  · have m' := mrg_iff h1 h2 m
    obtain ⟨u1, u2, u3, u4, u5⟩ := step_mrg m
    obtain ⟨v1, v2, v3, v4, v5⟩ := step_mrg m'
    refine ⟨by rw [u1, v1, h1], fun q hq => ?_⟩
    rw [u1] at hq
    by_cases hh : q = s.1 - 1
    · subst hh
      rw [← h1] at v3 v4 v5
      rw [u3, u4, u5, v3, v4, v5, (h2 _ hq).1]; exact ⟨rfl, rfl, rfl⟩
    · rw [u2 q (by omega), u2 q (by omega), u2 q (by omega), v2 q (by omega), v2 q (by omega), v2 q (by omega)]
      exact h2 q hq
  · have m' : ¬ Mrg s' S B K := fun x => m (mrg_iff h1.symm (by rw [← h1]; exact ag_symm h2) x)
    obtain ⟨u1, u2, u3, u4, u5⟩ := step_app m
    obtain ⟨v1, v2, v3, v4, v5⟩ := step_app m'
    refine ⟨by rw [u1, v1, h1], fun q hq => ?_⟩
    rw [u1] at hq
    by_cases hh : q = s.1
    · subst hh
      rw [← h1] at v3 v4 v5
      rw [u3, u4, u5, v3, v4, v5]; exact ⟨rfl, rfl, rfl⟩
    · rw [u2 q (by omega), u2 q (by omega), u2 q (by omega), v2 q (by omega), v2 q (by omega), v2 q (by omega)]
      exact h2 q (by omega)
theorem step_split {s : Nat × Dat} {T1 T2 d B K : Int} (h1 : 0 < T1) (h2 : 0 < T2) (hd : (d - dp s.2 s.1) * T2 = (B - d) * T1) : (stepL (stepL s T1 d K) T2 B K).1 = (stepL s (T1 + T2) B K).1 ∧ Ag (stepL s (T1 + T2) B K).1 (stepL (stepL s T1 d K) T2 B K).2 (stepL s (T1 + T2) B K).2 := by
  have hd' : (d - dp s.2 s.1) * (T1 + T2) = (B - dp s.2 s.1) * T1 := by
    rw [Int.mul_add, hd, ← Int.add_mul]; congr 1; omega
  by_cases m : Mrg s T1 d K
  · obtain ⟨m0, m1, m2⟩ := m
    have mm : Mrg s (T1 + T2) B K := by
      refine ⟨m0, m1, ?_⟩
      have : ((dp s.2 s.1 - dp s.2 (s.1 - 1)) * (T1 + T2)) * T1 = ((B - dp s.2 s.1) * s.2.ii (s.1 - 1) 0) * T1 := by
        have e1 : ((dp s.2 s.1 - dp s.2 (s.1 - 1)) * (T1 + T2)) * T1 = ((dp s.2 s.1 - dp s.2 (s.1 - 1)) * T1) * (T1 + T2) := by ac_rfl
        have e2 : ((B - dp s.2 s.1) * s.2.ii (s.1 - 1) 0) * T1 = ((B - dp s.2 s.1) * T1) * s.2.ii (s.1 - 1) 0 := by ac_rfl
        rw [e1, e2, m2, ← hd']; ac_rfl
      exact Int.eq_of_mul_eq_mul_right (by omega) this
    obtain ⟨u1, u2, u3, u4, u5⟩ := step_mrg (show Mrg s T1 d K from ⟨m0, m1, m2⟩)
    obtain ⟨v1, v2, v3, v4, v5⟩ := step_mrg mm
    generalize stepL s T1 d K = t at *
    generalize stepL s (T1 + T2) B K = z at *
    have u2' : ∀ q, q < s.1 - 1 → ∀ c, t.2.ii q c = s.2.ii q c := fun q hq c => u2 q (by omega) c
    have dt : dp t.2 t.1 = d := by
      rw [u1]
      obtain ⟨n, hn⟩ : ∃ n, s.1 = n + 1 := ⟨s.1 - 1, by omega⟩
      rw [hn] at u4 ⊢; exact u4
    have dt' : dp t.2 (t.1 - 1) = dp s.2 (s.1 - 1) := by rw [u1]; exact dp_eq u2' (Nat.le_refl _)
    have m3 : Mrg t T2 B K := by
      refine ⟨by omega, by rw [u1]; exact u5, ?_⟩
      rw [dt, dt', u1, u3]
      have f : (dp s.2 s.1 - dp s.2 (s.1 - 1)) * T2 = (B - d) * s.2.ii (s.1 - 1) 0 := by
        have : ((dp s.2 s.1 - dp s.2 (s.1 - 1)) * T2) * T1 = ((B - d) * s.2.ii (s.1 - 1) 0) * T1 := by
          have e1 : ((dp s.2 s.1 - dp s.2 (s.1 - 1)) * T2) * T1 = ((dp s.2 s.1 - dp s.2 (s.1 - 1)) * T1) * T2 := by ac_rfl
          have e2 : ((B - d) * s.2.ii (s.1 - 1) 0) * T1 = ((B - d) * T1) * s.2.ii (s.1 - 1) 0 := by ac_rfl
          rw [e1, e2, m2, ← hd]; ac_rfl
        exact Int.eq_of_mul_eq_mul_right (by omega) this
      rw [Int.mul_add, ← f, ← hd, ← Int.add_mul]; congr 1; omega
    obtain ⟨x1, x2, x3, x4, x5⟩ := step_mrg m3
    refine ⟨by rw [x1, u1, v1], fun q hq => ?_⟩
    rw [v1] at hq
    by_cases hh : q = s.1 - 1
    · subst hh
      rw [u1] at x3 x4 x5
      rw [x3, x4, x5, v3, v4, v5, u3]; exact ⟨by omega, rfl, rfl⟩
    · rw [x2 q (by omega), x2 q (by omega), x2 q (by omega), u2 q (by omega), u2 q (by omega), u2 q (by omega), v2 q (by omega), v2 q (by omega), v2 q (by omega)]
      exact ⟨rfl, rfl, rfl⟩
  · have mm : ¬ Mrg s (T1 + T2) B K := fun ⟨m0, m1, m2⟩ => m ⟨m0, m1, by
      have : ((dp s.2 s.1 - dp s.2 (s.1 - 1)) * T1) * (T1 + T2) = ((d - dp s.2 s.1) * s.2.ii (s.1 - 1) 0) * (T1 + T2) := by
        have e1 : ((dp s.2 s.1 - dp s.2 (s.1 - 1)) * T1) * (T1 + T2) = ((dp s.2 s.1 - dp s.2 (s.1 - 1)) * (T1 + T2)) * T1 := by ac_rfl
        have e2 : ((d - dp s.2 s.1) * s.2.ii (s.1 - 1) 0) * (T1 + T2) = ((d - dp s.2 s.1) * (T1 + T2)) * s.2.ii (s.1 - 1) 0 := by ac_rfl
        rw [e1, e2, m2, hd']; ac_rfl
      exact Int.eq_of_mul_eq_mul_right (by omega) this⟩
    obtain ⟨u1, u2, u3, u4, u5⟩ := step_app m
    obtain ⟨v1, v2, v3, v4, v5⟩ := step_app mm
    generalize stepL s T1 d K = t at *
    generalize stepL s (T1 + T2) B K = z at *
    have dt : dp t.2 t.1 = d := by rw [u1]; exact u4
    have dt' : dp t.2 (t.1 - 1) = dp s.2 s.1 := by rw [u1, Nat.add_sub_cancel]; exact dp_eq u2 (Nat.le_refl _)
    have m3 : Mrg t T2 B K := by
      refine ⟨by omega, by rw [u1, Nat.add_sub_cancel]; exact u5, ?_⟩
      rw [dt, dt', u1, Nat.add_sub_cancel, u3]; exact hd
    obtain ⟨x1, x2, x3, x4, x5⟩ := step_mrg m3
    refine ⟨by rw [x1, u1, v1], fun q hq => ?_⟩
    rw [v1] at hq
    rw [u1, Nat.add_sub_cancel] at x3 x4 x5
    by_cases hh : q = s.1
    · subst hh
      rw [x3, x4, x5, v3, v4, v5, u3]; exact ⟨rfl, rfl, rfl⟩
    · rw [x2 q (by omega), x2 q (by omega), x2 q (by omega), u2 q (by omega), u2 q (by omega), u2 q (by omega), v2 q (by omega), v2 q (by omega), v2 q (by omega)]
      exact ⟨rfl, rfl, rfl⟩
structure Cut (L : Nat) (e : Dat) (r : Nat) (T1 T2 d : Int) (w : Dat) : Prop where
  lt : r < L
  p1 : 0 < T1
  p2 : 0 < T2
  sum : T1 + T2 = e.ii r 0
  line : (d - dp e r) * T2 = (e.ii r 1 - d) * T1
  old : ∀ q, q < r → w.ii q 0 = e.ii q 0 ∧ w.ii q 1 = e.ii q 1 ∧ w.ii q 2 = e.ii q 2
  fst : w.ii r 0 = T1 ∧ w.ii r 1 = d ∧ w.ii r 2 = e.ii r 2
  snd : w.ii (r + 1) 0 = T2 ∧ w.ii (r + 1) 1 = e.ii r 1 ∧ w.ii (r + 1) 2 = e.ii r 2
  new : ∀ q, r < q → q < L → w.ii (q + 1) 0 = e.ii q 0 ∧ w.ii (q + 1) 1 = e.ii q 1 ∧ w.ii (q + 1) 2 = e.ii q 2
section
variable {a : ByteArray} {b : Int} {ng : Nat} {g : Dat} {L : Nat} {e : Dat} {r : Nat} {T1 T2 d : Int} {w : Dat}
theorem Cut.gst (P : Pln a b ng g L e) (C : Cut L e r T1 T2 d w) : ∀ {i : Nat}, r < i → i ≤ L → gst g w (i + 1) = Go.Proofs.YtchhhoamnagbfaaGreatDoor.gst g e i
  | 0, h, _ => absurd h (Nat.not_lt_zero _)
  | i + 1, h, hi => by
    by_cases hh : i = r
    · subst hh
      have e1 : Go.Proofs.YtchhhoamnagbfaaGreatDoor.gst g w (i + 1) = Go.Proofs.YtchhhoamnagbfaaGreatDoor.gst g e (i + 1) := gst_congr fun j hj => by
        by_cases c : j = i
        · subst c; exact C.fst.2.2
        · exact (C.old j (by omega)).2.2
      obtain ⟨kq, _, _, _, _, k5, _⟩ := gk_spec (g := g) P.leg C.lt
      have x : gx g w (i + 1) = gx g e i := by unfold gx; rw [C.snd.2.2]
      have y : gy g w (i + 1) = gy g e i := by unfold gy; rw [C.snd.2.2]
      rw [gst_same (by rw [e1, x, y, k5 (i + 1) (Nat.le_refl _) hi]; omega), e1]
    · have x : gx g w (i + 1) = gx g e i := by unfold gx; rw [(C.new i (by omega) (by omega)).2.2]
      have y : gy g w (i + 1) = gy g e i := by unfold gy; rw [(C.new i (by omega) (by omega)).2.2]
      rw [Go.Proofs.YtchhhoamnagbfaaGreatDoor.gst, Cut.gst P C (i := i) (by omega) (by omega), x, y, Go.Proofs.YtchhhoamnagbfaaGreatDoor.gst]
theorem Cut.lst (P : Pln a b ng g L e) (C : Cut L e r T1 T2 d w) : ∀ {i : Nat}, r < i → i ≤ L → (lst g w (i + 1)).1 = (Go.Proofs.YtchhhoamnagbfaaGreatDoor.lst g e i).1 ∧ Ag (Go.Proofs.YtchhhoamnagbfaaGreatDoor.lst g e i).1 (lst g w (i + 1)).2 (Go.Proofs.YtchhhoamnagbfaaGreatDoor.lst g e i).2
  | 0, h, _ => absurd h (Nat.not_lt_zero _)
  | i + 1, h, hi => by
    by_cases hh : i = r
    · subst hh
      have l0 : Go.Proofs.YtchhhoamnagbfaaGreatDoor.lst g w i = Go.Proofs.YtchhhoamnagbfaaGreatDoor.lst g e i := lst_congr fun j hj => C.old j hj
      have g1 : gk g w i = gk g e i := gk_congr fun j hj => by
        by_cases c : j = i
        · subst c; exact C.fst.2.2
        · exact (C.old j (by omega)).2.2
      have g2 : gk g w (i + 1) = gk g e i := by
        have x : gx g w (i + 1) = gx g e i := by unfold gx; rw [C.snd.2.2]
        have y : gy g w (i + 1) = gy g e i := by unfold gy; rw [C.snd.2.2]
        unfold gk
        rw [Cut.gst P C (i := i + 1) (by omega) hi, x, y]
      have I := ni_all (g := g) P.leg i (by have := C.lt; omega)
      have s := step_split (s := Go.Proofs.YtchhhoamnagbfaaGreatDoor.lst g e i) (K := gk g e i) C.p1 C.p2 (by rw [I.fin]; exact C.line)
      rw [lst_next g w (i + 1), lst_next g w i, l0, g1, g2, C.fst.1, C.fst.2.1, C.snd.1, C.snd.2.1, lst_next g e i, ← C.sum]
      exact ⟨s.1, s.2⟩
    · obtain ⟨h1, h2⟩ := Cut.lst P C (i := i) (by omega) (by omega)
      have n := C.new i (by omega) (by omega)
      have g2 : gk g w (i + 1) = gk g e i := by
        have x : gx g w (i + 1) = gx g e i := by unfold gx; rw [n.2.2]
        have y : gy g w (i + 1) = gy g e i := by unfold gy; rw [n.2.2]
        unfold gk
        rw [Cut.gst P C (i := i + 1) (by omega) hi, x, y]
      have s := step_ag h1 (by rw [h1]; exact h2) (e.ii i 0) (e.ii i 1) (gk g e i)
      rw [lst_next g w (i + 1), lst_next g e i, n.1, n.2.1, g2]
      exact ⟨s.1, by rw [← s.1]; exact s.2⟩
end
end Go.Proofs.YtchhhoamnagbfaaGreatDoor
namespace Go.Proofs.YtchhhoamnagbfaaGreatDoor
open Go Go.Sy
set_option linter.unusedVariables false
set_option linter.unusedSimpArgs false
set_option maxRecDepth 100000
section
variable {a : ByteArray} {b : Int} {ng : Nat} {g : Dat} {L : Nat} {e : Dat}
theorem ref_ln (P : Pln a b ng g L e) {E : Dat} (hE : PtsOf e (L + 1) E) {s : Int} (h0 : 0 ≤ s) (h1 : s ≤ sm e L) : n40 (L + 1) E s = true ∧ (1 ≤ (m40 (L + 1) E s).2 ∧ (m40 (L + 1) E s).2 ≤ 1000001) ∧ (0 ≤ (m40 (L + 1) E s).1 ∧ (m40 (L + 1) E s).1 ≤ 30000030000) ∧ (s = 0 → (m40 (L + 1) E s).1 = 0) ∧
    (∀ r, On L e s r → (m40 (L + 1) E s).1 * e.ii r 0 = Ln e r s * (m40 (L + 1) E s).2) ∧ (∀ r, On L e s r → s < sm e (r + 1) → m40 (L + 1) E s = (Ln e r s, e.ii r 0)) := by
  by_cases hL0 : L = 0
  · subst hL0
    have hs : s = 0 := by have : sm e 0 = 0 := rfl; omega
    subst hs
    have z1 : E.ii 0 1 = 0 := (hE 0 (by decide)).2
    have o : o40_0 (0 + 1) E 0 1 = some (false, default, ()) := by kernel_rfl
    have e40 : m40 (0 + 1) E 0 = (0, 1) := by simp only [m40, o, Option.getD_some, cond_false, z1]
    refine ⟨by simp only [n40, o, Option.getD_some, Option.isSome_some, cond_false]; rfl, by rw [e40]; exact ⟨by decide, by decide⟩, by rw [e40]; exact ⟨by decide, by decide⟩, fun _ => by rw [e40], fun r h => absurd h.1 (Nat.not_lt_zero _), fun r h => absurd h.1 (Nat.not_lt_zero _)⟩
  · have T := pln_trk P hE (by omega)
    have z0 : E.ii 0 0 = 0 := (hE 0 (by omega)).1
    have zL : E.ii (L + 1 - 1) 0 = sm e L := (hE L (by omega)).1
    obtain ⟨a1, a2⟩ := at_ok T (x := s) (by rw [z0]; exact h0) (by rw [zL]; exact h1)
    obtain ⟨b1, b2⟩ := ref_at T (x := s) (by rw [z0]; exact h0) (by rw [zL]; exact h1)
    have bd := b2.bnd T
    have al := (at_ref T a2 b2).1
    obtain ⟨p1, p2, p3, p4, p5⟩ := plan_at P hE h0 h1
    refine ⟨b1, bd.1, bd.2, fun hs => ?_, fun r hr => ?_, fun r hr hlt => ?_⟩
    · rw [p4 hs] at al; simp only [Int.zero_mul, Int.mul_one] at al; omega
    · obtain ⟨o1, o2, o3⟩ := hr
      have nn := P.nonneg (show r ≤ L by omega)
      obtain ⟨r', q1, _, _, q4⟩ := p5 (by omega)
      obtain rfl := q1.one P ⟨o1, o2, o3⟩
      have lr := P.leg0 o1
      have : ((m40 (L + 1) E s).1 * e.ii r' 0) * (m31 (L + 1) E s).2 = (Ln e r' s * (m40 (L + 1) E s).2) * (m31 (L + 1) E s).2 := by
        have e1 : ((m40 (L + 1) E s).1 * e.ii r' 0) * (m31 (L + 1) E s).2 = ((m40 (L + 1) E s).1 * (m31 (L + 1) E s).2) * e.ii r' 0 := by ac_rfl
        have e2 : (Ln e r' s * (m40 (L + 1) E s).2) * (m31 (L + 1) E s).2 = (Ln e r' s * (m31 (L + 1) E s).2) * (m40 (L + 1) E s).2 := by ac_rfl
        rw [e1, e2, ← al, ← q4]; ac_rfl
      exact Int.eq_of_mul_eq_mul_right (by omega) this
    · obtain ⟨o1, o2, o3⟩ := hr
      obtain ⟨k, k1, k2, k3, k4, k5, k6⟩ := b2
      rw [(hE (k - 1) (by omega)).1] at k3 k5 k6
      rw [(hE k k2).1] at k4 k5 k6
      rw [(hE (k - 1) (by omega)).2, (hE k k2).2] at k5
      have hk : k = r + 1 := by
        rcases Nat.lt_trichotomy k (r + 1) with c | c | c
        · have := P.le (show k ≤ r by omega) (by omega); omega
        · exact c
        · have := P.le (show r + 1 ≤ k - 1 by omega) (by omega); omega
      subst hk
      rw [Nat.add_sub_cancel] at k5 k6
      have es : sm e (r + 1) = sm e r + e.ii r 0 := rfl
      refine Prod.ext ?_ (by rw [k6]; omega)
      rw [k5]
      unfold Ln
      rw [Int.sub_mul, Int.mul_sub, Int.mul_sub, Int.mul_sub, Int.mul_sub]; omega
theorem refgas_run (P : Pln a b ng g L e) {s : Int} {r : Nat} (hr : r < L) (h1 : s ≤ sm e (r + 1)) (h2 : ∀ j, j < r → sm e (j + 1) < s) : ∀ (k i f : Nat), i + k = r → k < f → l17_0 s a b ng g L e f (sm e i) (i : Int) = some (true, e.ii r 2, default)
  | 0, i, f, hi, hf => by
    obtain ⟨f, rfl⟩ : ∃ f0, f = f0 + 1 := ⟨f - 1, by omega⟩
    obtain rfl : i = r := by omega
    have n0 := P.nonneg (show i ≤ L by omega); have t1 := P.sum (i + 1) (by omega); have l0 := P.leg0 hr
    have es : sm e (i + 1) = sm e i + e.ii i 0 := rfl
    have ws : IntKind.i64.wrap (sm e i + e.ii i 0) = sm e (i + 1) := by rw [← es]; exact wr (by omega) (by omega)
    simp only [l17_0, cdl hr, cdd hr, Int.toNat_natCast, ws, decide_eq_true h1, cond_true]
  | k + 1, i, f, hi, hf => by
    obtain ⟨f, rfl⟩ : ∃ f0, f = f0 + 1 := ⟨f - 1, by omega⟩
    have hlt : i < L := by omega
    have hL := P.legs
    have n0 := P.nonneg (show i ≤ L by omega); have t1 := P.sum (i + 1) (by omega); have l0 := P.leg0 hlt
    have es : sm e (i + 1) = sm e i + e.ii i 0 := rfl
    have ws : IntKind.i64.wrap (sm e i + e.ii i 0) = sm e (i + 1) := by rw [← es]; exact wr (by omega) (by omega)
    have hh := h2 i (by omega)
    simp only [l17_0, cdl hlt, cdd hlt, Int.toNat_natCast, ws, decide_eq_false (show ¬ s ≤ sm e (i + 1) by omega), cond_true, cond_false, wrS hlt (by omega)]
    exact refgas_run P hr h1 h2 k (i + 1) f (by omega) (by omega)
theorem refgas_ok (P : Pln a b ng g L e) {s : Int} {r : Nat} (hr : r < L) (h1 : s ≤ sm e (r + 1)) (h2 : ∀ j, j < r → sm e (j + 1) < s) : n17 a b ng g L e s = true ∧ m17 a b ng g L e s = e.ii r 2 := by
  have hL := P.legs
  have h : o17_0 s a b ng g L e 0 0 = some (true, e.ii r 2, default) := refgas_run P hr h1 h2 r 0 (s.toNat + Int.toNat 0 + Int.toNat 0 + a.size + b.toNat + ng + L + 8) (by omega) (by omega)
  exact ⟨by simp only [n17, h, Option.isSome_some, Bool.and_self], by simp only [m17, h, Option.getD_some, cond_true]⟩
end
end Go.Proofs.YtchhhoamnagbfaaGreatDoor
namespace Go.Proofs.YtchhhoamnagbfaaGreatDoor
open Go Go.Sy
set_option linter.unusedVariables false
set_option linter.unusedSimpArgs false
set_option maxRecDepth 100000
noncomputable def failB (p : Nat → Bool) (i : Nat) : Option (Bool × Bool × Unit) := cond (p i) none (some (true, false, default))
theorem fail_all (p : Nat → Bool) (n : Nat) : cond (first (failB p) (false, default, ()) n 0).1 (first (failB p) (false, default, ()) n 0).2.1 true = true ↔ ∀ q, q < n → p q = true := by
  rcases first_cases (g := failB p) (e := (false, (default : Bool), ())) n 0 with ⟨j, b, _, hj, hg, _, hb⟩ | ⟨hn, hb⟩
  · rw [hb]
    unfold failB at hg
    cases hp : p j with
    | true => rw [hp] at hg; cases hg
    | false =>
      rw [hp] at hg
      have : b = (true, false, default) := (Option.some.inj hg).symm
      subst this
      exact ⟨fun h => (by cases h), fun h => by rw [h j (by omega)] at hp; cases hp⟩
  · rw [hb]
    refine ⟨fun _ q hq => ?_, fun _ => rfl⟩
    have := hn q (Nat.zero_le _) (by omega)
    unfold failB at this
    cases hp : p q with
    | true => rfl
    | false => rw [hp] at this; cases this
theorem fail_ret (p : Nat → Bool) (n : Nat) : (first (failB p) (false, default, ()) n 0).1 = true → (first (failB p) (false, default, ()) n 0).2.1 = false := by
  rcases first_cases (g := failB p) (e := (false, (default : Bool), ())) n 0 with ⟨j, b, _, hj, hg, _, hb⟩ | ⟨hn, hb⟩
  · rw [hb]
    unfold failB at hg
    cases hp : p j with
    | true => rw [hp] at hg; cases hg
    | false =>
      rw [hp] at hg
      have : b = (true, false, default) := (Option.some.inj hg).symm
      subst this
      exact fun _ => rfl
  · rw [hb]; exact fun h => by cases h
theorem gases_iff {n n' : Nat} (hn : n ≤ 9223372036854775807) {D E : Dat} : n44 n D n' E = true ∧ (m44 n D n' E = true ↔ n = n' ∧ ∀ q, q < n → D.ii q 0 = E.ii q 0 ∧ D.ii q 1 = E.ii q 1) := by
  by_cases h : n = n'
  · subst h
    have hl : o44_0 n D n E (n : Int) 0 = some (first (failB fun q => decide (D.ii q 0 = E.ii q 0) && decide (D.ii q 1 = E.ii q 1)) (false, default, ()) n 0) := loop_first (n := n) (l := l44_0 n D n E (n : Int)) hn (fun f i hi => by
      simp only [l44_0, cdl hi, cdd hi, cond_true, Int.toNat_natCast, failB]
      cases decide (D.ii i 0 = E.ii i 0) <;> cases decide (D.ii i 1 = E.ii i 1) <;> rfl) (fun f => by simp only [l44_0, cdn]; rfl) n 0 _ (by omega) (by omega)
    have z : decide ((n : Int) = (n : Int)) = true := decide_eq_true rfl
    refine ⟨by simp only [n44, hl, z, decide_true, Option.isSome_some, cond_true, cond_false, Bool.and_self], ?_⟩
    simp only [m44, hl, z, decide_true, Option.getD_some, cond_true, cond_false]
    rw [fail_all]
    simp only [Bool.and_eq_true, decide_eq_true_eq, true_and]
  · have z : decide ((n : Int) = (n' : Int)) = false := decide_eq_false (by omega)
    refine ⟨by simp only [n44, z, cond_true, cond_false], ?_⟩
    simp only [m44, z, cond_true, cond_false]
    exact ⟨fun h => (by cases h), fun h' => absurd h'.1 h⟩
theorem legs_iff {n n' : Nat} (hn : n ≤ 9223372036854775807) {D E : Dat} : n45 n D n' E = true ∧ (m45 n D n' E = true ↔ n = n' ∧ Ag n D E) := by
  by_cases h : n = n'
  · subst h
    have hl : o45_0 n D n E (n : Int) 0 = some (first (failB fun q => decide (D.ii q 0 = E.ii q 0) && (decide (D.ii q 1 = E.ii q 1) && decide (D.ii q 2 = E.ii q 2))) (false, default, ()) n 0) := loop_first (n := n) (l := l45_0 n D n E (n : Int)) hn (fun f i hi => by
      simp only [l45_0, cdl hi, cdd hi, cond_true, Int.toNat_natCast, failB]
      cases decide (D.ii i 0 = E.ii i 0) <;> cases decide (D.ii i 1 = E.ii i 1) <;> cases decide (D.ii i 2 = E.ii i 2) <;> rfl) (fun f => by simp only [l45_0, cdn]; rfl) n 0 _ (by omega) (by omega)
    have z : decide ((n : Int) = (n : Int)) = true := decide_eq_true rfl
    refine ⟨by simp only [n45, hl, z, decide_true, Option.isSome_some, cond_true, cond_false, Bool.and_self], ?_⟩
    simp only [m45, hl, z, decide_true, Option.getD_some, cond_true, cond_false]
    rw [fail_all]
    simp only [Bool.and_eq_true, decide_eq_true_eq, true_and]
    exact Iff.rfl
  · have z : decide ((n : Int) = (n' : Int)) = false := decide_eq_false (by omega)
    refine ⟨by simp only [n45, z, cond_true, cond_false], ?_⟩
    simp only [m45, z, cond_true, cond_false]
    exact ⟨fun h => (by cases h), fun h' => absurd h'.1 h⟩
theorem plans_iff {a : ByteArray} {b b' : Int} {c c' : Nat} {G G' : Dat} {n n' : Nat} {o o' : Dat} (hc : c ≤ 9223372036854775807) (hn : n ≤ 9223372036854775807) : n19 a b c G n o a b' c' G' n' o' = true ∧ (m19 a b c G n o a b' c' G' n' o' = true ↔ b = b' ∧ (c = c' ∧ ∀ q, q < c → G.ii q 0 = G'.ii q 0 ∧ G.ii q 1 = G'.ii q 1) ∧ (n = n' ∧ Ag n o o')) := by
  have za : decide (a = a) = true := decide_eq_true rfl
  by_cases hb : b = b'
  · by_cases h1 : c = c'
    · by_cases h2 : n = n'
      · subst hb h1 h2
        have k0 : o19_0 a b c G n o a b c G' n o' 0 = some (first (failB fun q => decide (G.ii q 0 = G'.ii q 0) && decide (G.ii q 1 = G'.ii q 1)) (false, default, ()) c 0) := loop_first (n := c) (l := l19_0 a b c G n o a b c G' n o') hc (fun f i hi => by
          simp only [l19_0, cdl hi, cdd hi, cond_true, Int.toNat_natCast, failB]
          cases decide (G.ii i 0 = G'.ii i 0) <;> cases decide (G.ii i 1 = G'.ii i 1) <;> rfl) (fun f => by simp only [l19_0, cdn]; rfl) c 0 _ (by omega) (by omega)
        have k2 : o19_2 a b c G n o a b c G' n o' 0 = some (first (failB fun q => decide (o.ii q 0 = o'.ii q 0) && (decide (o.ii q 1 = o'.ii q 1) && decide (o.ii q 2 = o'.ii q 2))) (false, default, ()) n 0) := loop_first (n := n) (l := l19_2 a b c G n o a b c G' n o') hn (fun f i hi => by
          simp only [l19_2, cdl hi, cdd hi, cond_true, Int.toNat_natCast, failB]
          cases decide (o.ii i 0 = o'.ii i 0) <;> cases decide (o.ii i 1 = o'.ii i 1) <;> cases decide (o.ii i 2 = o'.ii i 2) <;> rfl) (fun f => by simp only [l19_2, cdn]; rfl) n 0 _ (by omega) (by omega)
        have f0 := fail_all (fun q => decide (G.ii q 0 = G'.ii q 0) && decide (G.ii q 1 = G'.ii q 1)) c
        have f2 := fail_all (fun q => decide (o.ii q 0 = o'.ii q 0) && (decide (o.ii q 1 = o'.ii q 1) && decide (o.ii q 2 = o'.ii q 2))) n
        have r0 := fail_ret (fun q => decide (G.ii q 0 = G'.ii q 0) && decide (G.ii q 1 = G'.ii q 1)) c
        simp only [n19, m19, k0, k2, za, decide_true, Option.isSome_some, Option.getD_some, cond_true, cond_false]
        generalize first (failB fun q => decide (G.ii q 0 = G'.ii q 0) && decide (G.ii q 1 = G'.ii q 1)) (false, default, ()) c 0 = x at *
        generalize first (failB fun q => decide (o.ii q 0 = o'.ii q 0) && (decide (o.ii q 1 = o'.ii q 1) && decide (o.ii q 2 = o'.ii q 2))) (false, default, ()) n 0 = y at *
        simp only [Bool.and_eq_true, decide_eq_true_eq] at f0 f2
        refine ⟨by cases x.1 <;> rfl, ?_⟩
        simp only [true_and]
        rw [← f0, show Ag n o o' ↔ ∀ q, q < n → o.ii q 0 = o'.ii q 0 ∧ o.ii q 1 = o'.ii q 1 ∧ o.ii q 2 = o'.ii q 2 from Iff.rfl, ← f2]
        obtain ⟨x1, x2, x3⟩ := x
        obtain ⟨y1, y2, y3⟩ := y
        simp only at r0
        cases x1 <;> cases x2 <;> cases y1 <;> cases y2 <;> simp at r0 ⊢
      · have z0 : decide (b = b') = true := decide_eq_true hb
        have z1 : decide ((c : Int) = (c' : Int)) = true := decide_eq_true (by omega)
        have z2 : decide ((n : Int) = (n' : Int)) = false := decide_eq_false (by omega)
        simp only [n19, m19, za, z0, z1, z2, decide_true, cond_true, cond_false]
        exact ⟨trivial, fun h => (by cases h), fun h => absurd h.2.2.1 h2⟩
    · have z0 : decide (b = b') = true := decide_eq_true hb
      have z1 : decide ((c : Int) = (c' : Int)) = false := decide_eq_false (by omega)
      simp only [n19, m19, za, z0, z1, decide_true, cond_true, cond_false]
      exact ⟨trivial, fun h => (by cases h), fun h => absurd h.2.1.1 h1⟩
  · have z0 : decide (b = b') = false := decide_eq_false hb
    simp only [n19, m19, za, z0, decide_true, cond_true, cond_false]
    exact ⟨trivial, fun h => (by cases h), fun h => absurd h.1 hb⟩
section
variable {a : ByteArray} {b : Int} {ng : Nat} {g : Dat} {L : Nat} {e : Dat} {a' : ByteArray} {b' : Int} {ng' : Nat} {g' : Dat} {L' : Nat} {e' : Dat}
theorem nf_size (P : Pln a b ng g L e) {r} (h : IsNf a b g L e r) : r.2.2.1 ≤ 60 ∧ r.2.2.2.2.1 ≤ 60 := by
  have hL := P.legs
  have I := ni_all (g := g) P.leg L (Nat.le_refl _)
  have S := gst_ok (g := g) P.leg L (Nat.le_refl _)
  obtain ⟨_, _, h3, _, h5, _⟩ := h
  constructor
  · rw [h3]; split
    · decide
    · have := S.le; omega
  · rw [h5]; have := I.cnt; omega
theorem samedive_ok (P : Pln a b ng g L e) (Q : Pln a' b' ng' g' L' e') : n20 a b ng g L e a' b' ng' g' L' e' = true ∧ n22 a b ng g L e a' b' ng' g' L' e' = true ∧ m20 a b ng g L e a' b' ng' g' L' e' = (m22 a b ng g L e a' b' ng' g' L' e', 0) := by
  have ha := P.small; have hg := P.few; have hL := P.legs; have ha' := Q.small; have hg' := Q.few; have hL' := Q.legs
  obtain ⟨x1, x2⟩ := normal_ok P
  obtain ⟨y1, y2⟩ := normal_ok Q
  obtain ⟨u1, u2⟩ := refNormal_ok P
  obtain ⟨v1, v2⟩ := refNormal_ok Q
  obtain ⟨t1, t2⟩ := two_plans a b ng g L e a' b' ng' g' L' e' (by omega) (by omega) (by omega) (by omega) (by omega) (by omega)
  have q1 := (plan_ok a b ng g L e (by omega) (by omega) (by omega)).2.2.2.2 P
  have q2 := (plan_ok a' b' ng' g' L' e' (by omega) (by omega) (by omega)).2.2.2.2 Q
  rw [q1, q2] at t2
  have t2 : _ = (0 : Int) := t2
  obtain ⟨⟨xa, xb, xc, xG, xn, xo⟩, hx⟩ : ∃ r, m43 a b ng g L e = r := ⟨_, rfl⟩
  obtain ⟨⟨ya, yb, yc, yG, yn, yo⟩, hy⟩ : ∃ r, m43 a' b' ng' g' L' e' = r := ⟨_, rfl⟩
  obtain ⟨⟨ua, ub, uc, uG, un, uo⟩, hu⟩ : ∃ r, m49 a b ng g L e = r := ⟨_, rfl⟩
  obtain ⟨⟨va, vb, vc, vG, vn, vo⟩, hv⟩ : ∃ r, m49 a' b' ng' g' L' e' = r := ⟨_, rfl⟩
  rw [hx] at x2
  rw [hy] at y2
  rw [hu] at u2
  rw [hv] at v2
  have sx := nf_size P x2; have sy := nf_size Q y2; have su := nf_size P u2; have sv := nf_size Q v2
  obtain ⟨A1, A2, A3, A4, A5, A6⟩ := nf_alike x2 u2
  obtain ⟨B1, B2, B3, B4, B5, B6⟩ := nf_alike y2 v2
  simp only at A1 A2 A3 A4 A5 A6 B1 B2 B3 B4 B5 B6 sx sy su sv
  subst A1 A2 A3 A5 B1 B2 B3 B5
  obtain ⟨g1, g2⟩ := gases_iff (n := xc) (n' := yc) (by omega) (D := xG) (E := yG)
  obtain ⟨l1, l2⟩ := legs_iff (n := xn) (n' := yn) (by omega) (D := xo) (E := yo)
  obtain ⟨p1, p2⟩ := plans_iff (a := xa) (b := xb) (b' := yb) (c := xc) (G := uG) (c' := yc) (G' := vG) (n := xn) (o := uo) (n' := yn) (o' := vo) (by omega) (by omega)
  refine ⟨by simp only [n20, t1, t2, hx, hy, x1, y1, g1, l1, decide_true, cond_true, cond_false, Bool.and_self, Bool.cond_self], by simp only [n22, hu, hv, u1, v1, p1, Bool.and_self], ?_⟩
  simp only [m20, m22, t2, hx, hy, hu, hv, decide_true, cond_true, cond_false]
  refine Prod.ext ?_ rfl
  show (bif (bif decide (xb = yb) then m44 xc xG yc yG else false) then m45 xn xo yn yo else false) = m19 xa xb xc uG xn uo xa yb yc vG yn vo
  rw [Bool.eq_iff_iff, p2]
  have c1 : (bif (bif decide (xb = yb) then m44 xc xG yc yG else false) then m45 xn xo yn yo else false) = true ↔ xb = yb ∧ m44 xc xG yc yG = true ∧ m45 xn xo yn yo = true := by
    by_cases h : xb = yb
    · rw [decide_eq_true h]
      cases m44 xc xG yc yG <;> cases m45 xn xo yn yo <;> simp [h]
    · rw [decide_eq_false h]
      exact ⟨fun k => (by cases k), fun k => absurd k.1 h⟩
  rw [c1, g2, l2]
  constructor
  · rintro ⟨k1, ⟨k2, k3⟩, k4, k5⟩
    refine ⟨k1, ⟨k2, fun q hq => ?_⟩, k4, fun q hq => ?_⟩
    · rw [← (A4 q hq).1, ← (A4 q hq).2, ← (B4 q (by omega)).1, ← (B4 q (by omega)).2]; exact k3 q hq
    · have s := A6 q hq; have t := B6 q (by omega); have w := k5 q hq
      exact ⟨s.1.symm.trans (w.1.trans t.1), s.2.1.symm.trans (w.2.1.trans t.2.1), s.2.2.symm.trans (w.2.2.trans t.2.2)⟩
  · rintro ⟨k1, ⟨k2, k3⟩, k4, k5⟩
    refine ⟨k1, ⟨k2, fun q hq => ?_⟩, k4, fun q hq => ?_⟩
    · rw [(A4 q hq).1, (A4 q hq).2, (B4 q (by omega)).1, (B4 q (by omega)).2]; exact k3 q hq
    · have s := A6 q hq; have t := B6 q (by omega); have w := k5 q hq
      exact ⟨s.1.trans (w.1.trans t.1.symm), s.2.1.trans (w.2.1.trans t.2.1.symm), s.2.2.trans (w.2.2.trans t.2.2.symm)⟩
theorem On.prev (P : Pln a b ng g L e) {s : Int} {r q : Nat} (h : On L e s r) (hq : q < r) : sm e (q + 1) < s := by
  obtain ⟨h1, h2, h3⟩ := h
  have := P.le (show q + 1 ≤ r by omega) (by omega)
  omega
def FoundR (L : Nat) (g e : Dat) (L' : Nat) (g' e' : Dat) (M s : Nat) (r : Bool × Int × Unit) : Prop :=
  (r = (false, default, ()) ∧ ∀ s' : Nat, s ≤ s' → s' ≤ M → (s' : Int) ≤ sm e L ∧ (s' : Int) ≤ sm e' L' ∧ ¬ DiffAt L g e L' g' e' s') ∨
  ∃ s1 : Nat, s ≤ s1 ∧ s1 ≤ M ∧ r = (true, (s1 : Int), default) ∧ (∀ s' : Nat, s ≤ s' → s' < s1 → (s' : Int) ≤ sm e L ∧ (s' : Int) ≤ sm e' L' ∧ ¬ DiffAt L g e L' g' e' s') ∧ (sm e L < (s1 : Int) ∨ sm e' L' < (s1 : Int) ∨ DiffAt L g e L' g' e' s1)
theorem FoundR.back {M s : Nat} {r : Bool × Int × Unit} (h0 : (s : Int) ≤ sm e L ∧ (s : Int) ≤ sm e' L' ∧ ¬ DiffAt L g e L' g' e' s) (h : FoundR L g e L' g' e' M (s + 1) r) : FoundR L g e L' g' e' M s r := by
  rcases h with ⟨h1, h2⟩ | ⟨s1, h1, h2, h3, h4, h5⟩
  · refine .inl ⟨h1, fun s' k1 k2 => ?_⟩
    by_cases hs : s' = s
    · subst hs; exact h0
    · exact h2 s' (by omega) k2
  · refine .inr ⟨s1, by omega, h2, h3, fun s' k1 k2 => ?_, h5⟩
    by_cases hs : s' = s
    · subst hs; exact h0
    · exact h4 s' (by omega) k2
theorem refdiffer_run (P : Pln a b ng g L e) (Q : Pln a' b' ng' g' L' e') {D D' : Dat} (hD : PtsOf e (L + 1) D) (hD' : PtsOf e' (L' + 1) D') (M : Nat) (hM : (M : Int) = imax (sm e L) (sm e' L')) :
    ∀ (k s f : Nat), s + k = M + 1 → k < f → ∃ r, l23_0 (L + 1) D (L' + 1) D' a b ng g L e a' b' ng' g' L' e' f (s : Int) = some r ∧ FoundR L g e L' g' e' M s r
  | 0, s, f, hs, hf => by
    obtain ⟨f, rfl⟩ : ∃ f0, f = f0 + 1 := ⟨f - 1, by omega⟩
    obtain ⟨e1, e2⟩ := seconds_ok P
    obtain ⟨k1, k2⟩ := seconds_ok Q
    have z : decide ((s : Int) ≤ imax (sm e L) (sm e' L')) = false := decide_eq_false (by omega)
    exact ⟨(false, default, ()), by simp only [l23_0, e1, e2, k1, k2, z, cond_true, cond_false], .inl ⟨rfl, fun s' h1 h2 => by omega⟩⟩
  | k + 1, s, f, hs, hf => by
    obtain ⟨f, rfl⟩ : ∃ f0, f = f0 + 1 := ⟨f - 1, by omega⟩
    obtain ⟨e1, e2⟩ := seconds_ok P
    obtain ⟨k1, k2⟩ := seconds_ok Q
    have tP := P.sum L (Nat.le_refl _); have tQ := Q.sum L' (Nat.le_refl _)
    have nP := P.nonneg (Nat.le_refl L); have nQ := Q.nonneg (Nat.le_refl L')
    have z : decide ((s : Int) ≤ imax (sm e L) (sm e' L')) = true := decide_eq_true (by omega)
    have hMb : (M : Int) ≤ 1000000 := by rw [hM]; unfold imax; split <;> omega
    have ws : IntKind.i64.wrap ((s : Int) + 1) = ((s + 1 : Nat) : Int) := by rw [wr (by omega) (by omega)]; omega
    by_cases c1 : sm e L < (s : Int)
    · refine ⟨(true, (s : Int), default), ?_, .inr ⟨s, Nat.le_refl _, by omega, rfl, fun s' h1 h2 => by omega, .inl c1⟩⟩
      simp only [l23_0, e1, e2, k1, k2, z, decide_eq_true c1, cond_true, cond_false, Bool.cond_self]
    by_cases c2 : sm e' L' < (s : Int)
    · refine ⟨(true, (s : Int), default), ?_, .inr ⟨s, Nat.le_refl _, by omega, rfl, fun s' h1 h2 => by omega, .inr (.inl c2)⟩⟩
      simp only [l23_0, e1, e2, k1, k2, z, decide_eq_false c1, decide_eq_true c2, cond_true, cond_false, Bool.cond_self]
    obtain ⟨a1, a2, a3, a4, a5, _⟩ := ref_ln P hD (s := (s : Int)) (by omega) (by omega)
    obtain ⟨b1, b2, b3, b4, b5, _⟩ := ref_ln Q hD' (s := (s : Int)) (by omega) (by omega)
    have q1 := mulb a3.1 a3.2 (show 0 ≤ (m40 (L' + 1) D' (s : Int)).2 by omega) b2.2
    have q2 := mulb b3.1 b3.2 (show 0 ≤ (m40 (L + 1) D (s : Int)).2 by omega) a2.2
    have w1 : IntKind.i64.wrap ((m40 (L + 1) D (s : Int)).1 * (m40 (L' + 1) D' (s : Int)).2) = (m40 (L + 1) D (s : Int)).1 * (m40 (L' + 1) D' (s : Int)).2 := wr (by omega) (by omega)
    have w2 : IntKind.i64.wrap ((m40 (L' + 1) D' (s : Int)).1 * (m40 (L + 1) D (s : Int)).2) = (m40 (L' + 1) D' (s : Int)).1 * (m40 (L + 1) D (s : Int)).2 := wr (by omega) (by omega)
    obtain ⟨r, f1, f2⟩ := refdiffer_run P Q hD hD' M hM k (s + 1) f (by omega) (by omega)
    by_cases hz : s = 0
    · subst hz
      have e0 : decide ((m40 (L + 1) D (((0 : Nat)) : Int)).1 * (m40 (L' + 1) D' (((0 : Nat)) : Int)).2 = (m40 (L' + 1) D' (((0 : Nat)) : Int)).1 * (m40 (L + 1) D (((0 : Nat)) : Int)).2) = true := decide_eq_true (by rw [a4 rfl, b4 rfl, Int.zero_mul, Int.zero_mul])
      have z5 : decide ((0 : Int) < (((0 : Nat)) : Int)) = false := rfl
      refine ⟨r, ?_, f2.back ⟨by omega, by omega, fun ⟨r, k, h1, _⟩ => ?_⟩⟩
      · simp only [l23_0, e1, e2, k1, k2, z, decide_eq_false c1, decide_eq_false c2, a1, b1, w1, w2, e0, z5, ws, cond_true, cond_false, Bool.cond_self]
        exact f1
      · have := h1.2.1; have := P.nonneg (show r ≤ L by have := h1.1; omega); omega
    · have z5 : decide ((0 : Int) < (s : Int)) = true := decide_eq_true (by omega)
      have spos : (0 : Int) < (s : Int) := by omega
      have s0 : (0 : Int) ≤ (s : Int) := by omega
      have sP : (s : Int) ≤ sm e L := by omega
      have sQ : (s : Int) ≤ sm e' L' := by omega
      obtain ⟨_, _, _, _, p5⟩ := plan_at P hD (s := (s : Int)) s0 sP
      obtain ⟨_, _, _, _, p6⟩ := plan_at Q hD' (s := (s : Int)) s0 sQ
      obtain ⟨i, onP⟩ : ∃ i, On L e (s : Int) i := (p5 spos).imp fun _ h => h.1
      obtain ⟨j, onQ⟩ : ∃ j, On L' e' (s : Int) j := (p6 spos).imp fun _ h => h.1
      clear p5 p6
      have lp := P.leg i onP.1; have lq := Q.leg j onQ.1
      have lp0 := P.leg0 onP.1; have lq0 := Q.leg0 onQ.1
      obtain ⟨g1, g2⟩ := refgas_ok P onP.1 onP.2.2 (fun q hq => onP.prev P hq)
      obtain ⟨h1, h2⟩ := refgas_ok Q onQ.1 onQ.2.2 (fun q hq => onQ.prev Q hq)
      have af := alike_frac (x := Ln e i (s : Int)) (y := Ln e' j (s : Int)) (u := e.ii i 0) (v := e'.ii j 0) (by omega) (by omega) (show 0 < (m40 (L + 1) D (s : Int)).2 by omega) (show 0 < (m40 (L' + 1) D' (s : Int)).2 by omega) (a5 i onP) (b5 j onQ)
      have y3 : decide (0 ≤ e.ii i 2 ∧ e.ii i 2 < (ng : Int)) = true := decide_eq_true lp.2.2
      have y4 : decide (0 ≤ e'.ii j 2 ∧ e'.ii j 2 < (ng' : Int)) = true := decide_eq_true lq.2.2
      have gas0 : g.ii (e.ii i 2).toNat 0 = gx g e i := rfl
      have gas1 : g.ii (e.ii i 2).toNat 1 = gy g e i := rfl
      have gas2 : g'.ii (e'.ii j 2).toNat 0 = gx g' e' j := rfl
      have gas3 : g'.ii (e'.ii j 2).toNat 1 = gy g' e' j := rfl
      by_cases hA : Alike g e i g' e' j (s : Int)
      · obtain ⟨hA1, hA2, hA3⟩ := hA
        have eq := decide_eq_true (af.2 hA3)
        refine ⟨r, ?_, f2.back ⟨by omega, by omega, fun ⟨r', q', o1, o2, o3⟩ => ?_⟩⟩
        · simp only [l23_0, e1, e2, k1, k2, z, decide_eq_false c1, decide_eq_false c2, a1, b1, w1, w2, eq, z5, g1, g2, h1, h2, y3, y4, gas0, gas1, gas2, gas3, hA1, hA2, ws, decide_true, cond_true, cond_false, Bool.cond_self]
          exact f1
        · obtain rfl := o1.one P onP
          obtain rfl := o2.one Q onQ
          exact o3 ⟨hA1, hA2, hA3⟩
      · refine ⟨(true, (s : Int), default), ?_, .inr ⟨s, Nat.le_refl _, by omega, rfl, fun s' h1 h2 => by omega, .inr (.inr ⟨_, _, onP, onQ, hA⟩)⟩⟩
        by_cases b3' : Ln e i (s : Int) * e'.ii j 0 = Ln e' j (s : Int) * e.ii i 0
        · have eq := decide_eq_true (af.2 b3')
          by_cases b1' : gx g e i = gx g' e' j
          · have b2' : ¬ gy g e i = gy g' e' j := fun h => hA ⟨b1', h, b3'⟩
            simp only [l23_0, e1, e2, k1, k2, z, decide_eq_false c1, decide_eq_false c2, a1, b1, w1, w2, eq, z5, g1, g2, h1, h2, y3, y4, gas0, gas1, gas2, gas3, b1', decide_eq_false b2', decide_true, cond_true, cond_false, Bool.cond_self]
          · simp only [l23_0, e1, e2, k1, k2, z, decide_eq_false c1, decide_eq_false c2, a1, b1, w1, w2, eq, z5, g1, g2, h1, h2, y3, y4, gas0, gas1, gas2, gas3, decide_eq_false b1', decide_true, cond_true, cond_false, Bool.cond_self]
        · have ne := decide_eq_false fun h => b3' (af.1 h)
          simp only [l23_0, e1, e2, k1, k2, z, decide_eq_false c1, decide_eq_false c2, a1, b1, w1, w2, ne, cond_true, cond_false, Bool.cond_self]
theorem firsts_ok (P : Pln a b ng g L e) (Q : Pln a' b' ng' g' L' e') : n21 a b ng g L e a' b' ng' g' L' e' = true ∧ n23 a b ng g L e a' b' ng' g' L' e' = true ∧
    ((m23 a b ng g L e a' b' ng' g' L' e' = -1 ∧ m21 a b ng g L e a' b' ng' g' L' e' = (0, 12)) ∨ (0 ≤ m23 a b ng g L e a' b' ng' g' L' e' ∧ m21 a b ng g L e a' b' ng' g' L' e' = (m23 a b ng g L e a' b' ng' g' L' e', 0))) := by
  obtain ⟨x1, M, hM, r, hF, hr⟩ := differ_ok P Q
  obtain ⟨u1, D, u2, u3⟩ := points_ok P
  obtain ⟨v1, D', v2, v3⟩ := points_ok Q
  obtain ⟨e1, e2⟩ := seconds_ok P
  obtain ⟨k1, k2⟩ := seconds_ok Q
  have nP := P.nonneg (Nat.le_refl L); have nQ := Q.nonneg (Nat.le_refl L')
  have hMl : M ≤ (sm e L).toNat + (sm e' L').toNat := by
    have : (M : Int) ≤ sm e L + sm e' L' := by rw [hM]; unfold imax; split <;> omega
    omega
  obtain ⟨r', r1, r2⟩ := refdiffer_run P Q u3 v3 M hM (M + 1) 0 ((m13 a b ng g L e).toNat + (m13 a' b' ng' g' L' e').toNat + 8) (by omega) (by rw [e2, k2]; omega)
  have h : o23_0 (L + 1) D (L' + 1) D' a b ng g L e a' b' ng' g' L' e' 0 = some r' := r1
  refine ⟨x1, by simp only [n23, u1, u2, v1, v2, h, Option.isSome_some, Bool.and_self], ?_⟩
  have e23 : m23 a b ng g L e a' b' ng' g' L' e' = cond r'.1 r'.2.1 (-1) := by simp only [m23, u2, v2, h, Option.getD_some]
  rw [e23, hr]
  rcases hF with ⟨h1, h2⟩ | ⟨s1, h1, h2, h3, h4, h5⟩
  · rcases r2 with ⟨t1, _⟩ | ⟨t1, q1, q2, q3, _, q5⟩
    · rw [h1, t1]; exact .inl ⟨rfl, rfl⟩
    · exfalso
      have := h2 t1 q1 q2
      rcases q5 with q5 | q5 | q5
      · omega
      · omega
      · exact this.2.2 q5
  · rcases r2 with ⟨_, t2⟩ | ⟨t1, q1, q2, q3, q4, q5⟩
    · exfalso
      have := t2 s1 h1 h2
      rcases h5 with h5 | h5 | h5
      · omega
      · omega
      · exact this.2.2 h5
    · have : s1 = t1 := by
        rcases Nat.lt_trichotomy s1 t1 with c | c | c
        · exfalso
          have := q4 s1 h1 c
          rcases h5 with h5 | h5 | h5
          · omega
          · omega
          · exact this.2.2 h5
        · exact c
        · exfalso
          have := h4 t1 q1 c
          rcases q5 with q5 | q5 | q5
          · omega
          · omega
          · exact this.2.2 q5
      subst this
      rw [h3, q3]
      exact .inr ⟨by show (0 : Int) ≤ (s1 : Int); omega, rfl⟩
end
theorem differs_law (a : ByteArray) (b : Int) (ng : Nat) (g : Dat) (L : Nat) (e : Dat) (a' : ByteArray) (b' : Int) (ng' : Nat) (g' : Dat) (L' : Nat) (e' : Dat) : n4 a b ng g L e a' b' ng' g' L' e' = true ∧ m4 a b ng g L e a' b' ng' g' L' e' = true := by
  cases hs : m6 a b ng g L e with
  | false => exact ⟨by simp only [n4, n5_t, m5_t, hs, cond_true, cond_false, Bool.and_true], by simp only [m4, m5_t, hs, cond_true, cond_false]⟩
  | true =>
  cases ht : m6 a' b' ng' g' L' e' with
  | false => exact ⟨by simp only [n4, n5_t, m5_t, hs, ht, cond_true, cond_false, Bool.and_true], by simp only [m4, m5_t, hs, ht, cond_true, cond_false]⟩
  | true =>
  obtain ⟨b1, b2, b3⟩ := few_bnd hs
  obtain ⟨d1, d2, d3⟩ := few_bnd ht
  obtain ⟨c1, c2⟩ := copies_ok (a := a) (b := b) (ng := ng) (g := g) (L := L) (e := e) (by omega) (by omega)
  obtain ⟨c3, c4⟩ := copies_ok (a := a') (b := b') (ng := ng') (g := g') (L := L') (e := e') (by omega) (by omega)
  obtain ⟨_, p2, _, p4, p5⟩ := plan_ok a b ng g L e (by omega) (by omega) (by omega)
  obtain ⟨_, q2, _, q4, q5⟩ := plan_ok a' b' ng' g' L' e' (by omega) (by omega) (by omega)
  obtain ⟨t1, t2⟩ := two_plans a b ng g L e a' b' ng' g' L' e' (by omega) (by omega) (by omega) (by omega) (by omega) (by omega)
  have hdd : ∀ x : Int, decide (x = x) = true := fun x => decide_eq_true rfl
  have hbb : ∀ x : Bool, decide (x = x) = true := fun x => decide_eq_true rfl
  by_cases h0 : (m11 a b ng g L e).2 = 0
  · have P := p4 h0
    obtain ⟨v1, v2⟩ := seconds_ok P
    by_cases h1 : (m11 a' b' ng' g' L' e').2 = 0
    · have Q := q4 h1
      obtain ⟨w1, w2⟩ := seconds_ok Q
      obtain ⟨s1, s2, s3⟩ := samedive_ok P Q
      obtain ⟨f1, f2, f3⟩ := firsts_ok P Q
      by_cases big : (3000 : Int) < m13 a b ng g L e
      · exact ⟨by simp only [n4, n5_t, m5_t, hs, ht, p2, q2, h0, h1, v1, w1, decide_eq_true big, decide_true, cond_true, cond_false, Bool.and_self, Bool.cond_self], by simp only [m4, m5_t, hs, ht, h0, h1, decide_eq_true big, decide_true, cond_true, cond_false, Bool.cond_self]⟩
      by_cases big' : (3000 : Int) < m13 a' b' ng' g' L' e'
      · exact ⟨by simp only [n4, n5_t, m5_t, hs, ht, p2, q2, h0, h1, v1, w1, decide_eq_false big, decide_eq_true big', decide_true, cond_true, cond_false, Bool.and_self, Bool.cond_self], by simp only [m4, m5_t, hs, ht, h0, h1, decide_eq_false big, decide_eq_true big', decide_true, cond_true, cond_false, Bool.cond_self]⟩
      rcases f3 with ⟨g1, g2⟩ | ⟨g1, g2⟩
      · have z : decide ((-1 : Int) < 0) = true := rfl
        exact ⟨by simp only [n4, n5_t, m5_t, hs, ht, p2, q2, h0, h1, v1, w1, decide_eq_false big, decide_eq_false big', c1, c2, c3, c4, s1, s2, s3, f1, f2, hbb, hdd, decide_true, cond_true, cond_false, Bool.and_self, Bool.cond_self], by simp only [m4, m5_t, hs, ht, h0, h1, decide_eq_false big, decide_eq_false big', c2, c4, s3, g1, g2, z, hbb, hdd, decide_true, cond_true, cond_false, Bool.cond_self]⟩
      · have z : decide (m23 a b ng g L e a' b' ng' g' L' e' < 0) = false := decide_eq_false (by omega)
        exact ⟨by simp only [n4, n5_t, m5_t, hs, ht, p2, q2, h0, h1, v1, w1, decide_eq_false big, decide_eq_false big', c1, c2, c3, c4, s1, s2, s3, f1, f2, hbb, hdd, decide_true, cond_true, cond_false, Bool.and_self, Bool.cond_self], by simp only [m4, m5_t, hs, ht, h0, h1, decide_eq_false big, decide_eq_false big', c2, c4, s3, g2, z, hbb, hdd, decide_true, cond_true, cond_false, Bool.cond_self]⟩
    · have z := decide_eq_false h1
      rw [decide_eq_true h0] at t2
      have t2 : _ = (m11 a' b' ng' g' L' e').2 := t2
      have e20 : m20 a b ng g L e a' b' ng' g' L' e' = (false, (m11 a' b' ng' g' L' e').2) := by simp only [m20, t2, z, cond_true, cond_false]
      have f20 : n20 a b ng g L e a' b' ng' g' L' e' = true := by simp only [n20, t1, t2, z, cond_true, cond_false, Bool.and_self]
      have e21 : m21 a b ng g L e a' b' ng' g' L' e' = (0, (m11 a' b' ng' g' L' e').2) := by simp only [m21, t2, z, cond_true, cond_false]
      have f21 : n21 a b ng g L e a' b' ng' g' L' e' = true := by simp only [n21, t1, t2, z, cond_true, cond_false, Bool.and_self]
      exact ⟨by simp only [n4, n5_t, m5_t, hs, ht, p2, q2, h0, z, v1, c1, c2, c3, c4, f20, f21, decide_true, cond_true, cond_false, Bool.and_self, Bool.cond_self], by simp only [m4, m5_t, hs, ht, h0, z, c2, c4, e20, e21, hdd, decide_true, cond_true, cond_false, Bool.cond_self]⟩
  · have z := decide_eq_false h0
    rw [z] at t2
    have t2 : _ = (m11 a b ng g L e).2 := t2
    have e20 : m20 a b ng g L e a' b' ng' g' L' e' = (false, (m11 a b ng g L e).2) := by simp only [m20, t2, z, cond_true, cond_false]
    have f20 : n20 a b ng g L e a' b' ng' g' L' e' = true := by simp only [n20, t1, t2, z, cond_true, cond_false, Bool.and_self]
    have e21 : m21 a b ng g L e a' b' ng' g' L' e' = (0, (m11 a b ng g L e).2) := by simp only [m21, t2, z, cond_true, cond_false]
    have f21 : n21 a b ng g L e a' b' ng' g' L' e' = true := by simp only [n21, t1, t2, z, cond_true, cond_false, Bool.and_self]
    exact ⟨by simp only [n4, n5_t, m5_t, hs, ht, p2, z, c1, c2, c3, c4, f20, f21, cond_true, cond_false, Bool.and_self, Bool.cond_self], by simp only [m4, m5_t, hs, ht, z, c2, c4, e20, e21, hdd, decide_true, cond_true, cond_false, Bool.cond_self]⟩
end Go.Proofs.YtchhhoamnagbfaaGreatDoor

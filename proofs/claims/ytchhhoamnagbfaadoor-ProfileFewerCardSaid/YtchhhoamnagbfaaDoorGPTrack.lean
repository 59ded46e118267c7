/-
  Profiles as tracks: the check, the depth at a second, the allowed steps: plain law. Conditions: none.
-/
import Derived.Test.YtchhhoamnagbfaaDoorGFFewer
namespace Go.Proofs.YtchhhoamnagbfaaDoor
open Go Go.Sy
set_option linter.unusedVariables false
set_option linter.unusedSimpArgs false
set_option maxRecDepth 100000
attribute [local simp] brk
theorem wr {n : Int} (h0 : -9223372036854775808 ≤ n) (h1 : n ≤ 9223372036854775807) : IntKind.i64.wrap n = n := wrp h0 h1
theorem m52_iff {x a b : Int} : m52 x a b = true ↔ a ≤ x ∧ x ≤ b := by
  simp only [m52]
  by_cases h1 : a ≤ x <;> by_cases h2 : x ≤ b <;> simp [h1, h2]
theorem m52_no {x a b : Int} (h : ¬ (a ≤ x ∧ x ≤ b)) : m52 x a b = false := by
  cases hh : m52 x a b with
  | true => exact (h (m52_iff.1 hh)).elim
  | false => rfl
theorem m16_m25 (x a b : Int) : m16 x a b = m52 x a b := rfl
theorem mulb {x y A B : Int} (hx0 : 0 ≤ x) (hx : x ≤ A) (hy0 : 0 ≤ y) (hy : y ≤ B) : 0 ≤ x * y ∧ x * y ≤ A * B :=
  ⟨Int.mul_nonneg hx0 hy0, Int.le_trans (Int.mul_le_mul_of_nonneg_right hx hy0) (Int.mul_le_mul_of_nonneg_left hy (by omega))⟩
structure Pts (n : Nat) (d : Dat) : Prop where
  two : 2 ≤ n
  few : n ≤ 200
  sec : ∀ i, i < n → 0 ≤ d.ii i 0 ∧ d.ii i 0 ≤ 1000000
  dep : ∀ i, i < n → 0 ≤ d.ii i 1 ∧ d.ii i 1 ≤ 30000
  up : ∀ i, i + 1 < n → d.ii i 0 < d.ii (i + 1) 0
noncomputable def badP (d : Dat) (i : Nat) : Option (Bool × Int × Unit) :=
  cond (bif (bif m52 (d.ii i 0) 0 1000000 then false else true) then true else (bif m52 (d.ii i 1) 0 30000 then false else true)) (some (true, 2, default))
    (cond (bif decide (0 < i) then decide (d.ii i 0 ≤ d.ii (i - 1) 0) else false) (some (true, 9, default)) none)
theorem l15_all {n : Nat} {d : Dat} (hn : n ≤ 9223372036854775807) : o15_1 n d d (n : Int) 0 = some (first (badP d) (false, default, ()) n 0) := by
  refine loop_first (l := l15_1 n d d (n : Int)) hn (fun f i hi => ?_) (fun f => by simp only [l15_1, cdn]; rfl) n 0 _ (by omega) (by omega)
  have w : IntKind.i64.wrap ((i : Int) - 1) = (i : Int) - 1 := wr (by omega) (by omega)
  have t : ((i : Int) - 1).toNat = i - 1 := by omega
  by_cases h0 : 0 < i
  · have z : decide ((0 : Int) < (i : Int)) = true := decide_eq_true (by omega)
    have z2 : decide (0 ≤ (i : Int) - 1 ∧ (i : Int) - 1 < (n : Int)) = true := decide_eq_true ⟨by omega, by omega⟩
    simp only [l15_1, cdl hi, cdd hi, cond_true, Int.toNat_natCast, badP, w, t, z, z2, decide_eq_true h0]
    cases m52 (d.ii i 0) 0 1000000 <;> cases m52 (d.ii i 1) 0 30000 <;> cases decide (d.ii i 0 ≤ d.ii (i - 1) 0) <;> simp
  · have z : decide ((0 : Int) < (i : Int)) = false := decide_eq_false (by omega)
    simp only [l15_1, cdl hi, cdd hi, cond_true, Int.toNat_natCast, badP, w, t, z, decide_eq_false h0]
    cases m52 (d.ii i 0) 0 1000000 <;> cases m52 (d.ii i 1) 0 30000 <;> simp
theorem l14_all {n : Nat} {d : Dat} (hn : n ≤ 9223372036854775807) : o14_0 n d 0 = some (first (badP d) (false, default, ()) n 0) := by
  refine loop_first (l := l14_0 n d) hn (fun f i hi => ?_) (fun f => by simp only [l14_0, cdn]; rfl) n 0 _ (by omega) (by omega)
  have w : IntKind.i64.wrap ((i : Int) - 1) = (i : Int) - 1 := wr (by omega) (by omega)
  have t : ((i : Int) - 1).toNat = i - 1 := by omega
  by_cases h0 : 0 < i
  · have z : decide ((0 : Int) < (i : Int)) = true := decide_eq_true (by omega)
    have z2 : decide (0 ≤ (i : Int) - 1 ∧ (i : Int) - 1 < (n : Int)) = true := decide_eq_true ⟨by omega, by omega⟩
    simp only [l14_0, cdl hi, cdd hi, cond_true, Int.toNat_natCast, badP, m16_m25, w, t, z, z2, decide_eq_true h0]
    cases m52 (d.ii i 0) 0 1000000 <;> cases m52 (d.ii i 1) 0 30000 <;> cases decide (d.ii i 0 ≤ d.ii (i - 1) 0) <;> simp
  · have z : decide ((0 : Int) < (i : Int)) = false := decide_eq_false (by omega)
    simp only [l14_0, cdl hi, cdd hi, cond_true, Int.toNat_natCast, badP, m16_m25, w, t, z, decide_eq_false h0]
    cases m52 (d.ii i 0) 0 1000000 <;> cases m52 (d.ii i 1) 0 30000 <;> simp
theorem badP_none {d : Dat} {i : Nat} : badP d i = none ↔ (0 ≤ d.ii i 0 ∧ d.ii i 0 ≤ 1000000) ∧ (0 ≤ d.ii i 1 ∧ d.ii i 1 ≤ 30000) ∧ (0 < i → d.ii (i - 1) 0 < d.ii i 0) := by
  simp only [badP]
  by_cases a : 0 ≤ d.ii i 0 ∧ d.ii i 0 ≤ 1000000
  · rw [m52_iff.2 a]
    by_cases b : 0 ≤ d.ii i 1 ∧ d.ii i 1 ≤ 30000
    · rw [m52_iff.2 b]
      by_cases h0 : 0 < i
      · by_cases c : d.ii i 0 ≤ d.ii (i - 1) 0
        · simp [h0, c]; try omega
        · simp [h0, c]; try omega
      · simp [h0]; omega
    · rw [m52_no b]; simp; omega
  · rw [m52_no a]; simp; omega
theorem check_ok {n : Nat} {d : Dat} (hn : n ≤ 9223372036854775807) : n15 n d = true ∧ n14 n d = true ∧ m14 n d = m15 n d ∧ (m15 n d = 0 ↔ Pts n d) := by
  by_cases h2 : n < 2
  · have z : decide ((n : Int) < 2) = true := decide_eq_true (by omega)
    refine ⟨by simp only [n15, z, cond_true], by simp only [n14, z, cond_true], by simp only [m14, m15, z, cond_true], ?_⟩
    simp only [m15, z, cond_true]
    exact ⟨fun h => absurd h (by decide), fun P => absurd P.two (by omega)⟩
  · have z : decide ((n : Int) < 2) = false := decide_eq_false (by omega)
    by_cases h200 : 200 < n
    · have y : decide ((200 : Int) < (n : Int)) = true := decide_eq_true (by omega)
      refine ⟨by simp only [n15, z, y, cond_true, cond_false], by simp only [n14, z, y, cond_true, cond_false], by simp only [m14, m15, z, y, cond_true, cond_false], ?_⟩
      simp only [m15, z, y, cond_true, cond_false]
      exact ⟨fun h => absurd h (by decide), fun P => absurd P.few (by omega)⟩
    · have y : decide ((200 : Int) < (n : Int)) = false := decide_eq_false (by omega)
      refine ⟨by simp only [n15, z, y, l15_all hn, cond_false]; rfl, by simp only [n14, z, y, l14_all hn, cond_false]; rfl, by simp only [m14, m15, z, y, l14_all hn, l15_all hn, cond_false], ?_⟩
      simp only [m15, z, y, l15_all hn, cond_false, Option.getD_some]
      rcases first_cases (g := badP d) (e := (false, default, ())) n 0 with ⟨j, b, _, hj, h3, _, h5⟩ | ⟨h1, h3⟩
      · rw [h5]
        constructor
        · intro h
          exfalso
          simp only [badP] at h3
          revert h3 h
          cases (bif (bif m52 (d.ii j 0) 0 1000000 then false else true) then true else (bif m52 (d.ii j 1) 0 30000 then false else true)) <;> cases (bif decide (0 < j) then decide (d.ii j 0 ≤ d.ii (j - 1) 0) else false) <;> intro h3 <;> cases h3 <;> simp
        · intro P
          have : badP d j = none := badP_none.2 ⟨P.sec j (by omega), P.dep j (by omega), fun h0 => by have := P.up (j - 1) (by omega); rw [show j - 1 + 1 = j by omega] at this; exact this⟩
          rw [this] at h3; cases h3
      · rw [h3]
        refine ⟨fun _ => ⟨by omega, by omega, fun i hi => ?_, fun i hi => ?_, fun i hi => ?_⟩, fun _ => rfl⟩
        · exact (badP_none.1 (h1 i (Nat.zero_le _) (by omega))).1
        · exact (badP_none.1 (h1 i (Nat.zero_le _) (by omega))).2.1
        · have := (badP_none.1 (h1 (i + 1) (Nat.zero_le _) (by omega))).2.2 (by omega)
          simpa using this
structure Trk (n : Nat) (d : Dat) : Prop where
  two : 2 ≤ n
  few : n ≤ 200
  sec : ∀ i, i < n → 0 ≤ d.ii i 0 ∧ d.ii i 0 ≤ 1000001
  dep : ∀ i, i < n → 0 ≤ d.ii i 1 ∧ d.ii i 1 ≤ 30000
  up : ∀ i, i + 1 < n → d.ii i 0 < d.ii (i + 1) 0
theorem Pts.trk {n : Nat} {d : Dat} (P : Pts n d) : Trk n d := ⟨P.two, P.few, fun i hi => by have := P.sec i hi; omega, P.dep, P.up⟩
theorem Trk.lt {n : Nat} {d : Dat} (T : Trk n d) : ∀ {i j : Nat}, i < j → j < n → d.ii i 0 < d.ii j 0
  | i, 0, h, _ => absurd h (Nat.not_lt_zero _)
  | i, j + 1, h, hj => by
    have a := T.up j hj
    by_cases e : i = j
    · subst e; exact a
    · have := T.lt (show i < j by omega) (by omega); omega
theorem Trk.le {n : Nat} {d : Dat} (T : Trk n d) {i j : Nat} (h : i ≤ j) (hj : j < n) : d.ii i 0 ≤ d.ii j 0 := by
  by_cases e : i = j
  · subst e; exact Int.le_refl _
  · exact Int.le_of_lt (T.lt (by omega) hj)
theorem leg_ok {n : Nat} {d : Dat} (T : Trk n d) {x : Int} (hx : x ≤ d.ii (n - 1) 0) : n79 n d x = true ∧ ∃ r : Nat, 1 ≤ r ∧ r < n ∧ x ≤ d.ii r 0 ∧ (∀ j, 1 ≤ j → j < r → d.ii j 0 < x) ∧ m79 n d x = (r : Int) := by
  have two := T.two; have few := T.few
  have o : o100c101_0 (n - 1) (d.shift 1) (datC [SV.int IntKind.i64 x]) ((n - 1 : Nat) : Int) 0 = some (first (fun i => cond (decide (x ≤ d.ii (1 + i) 0)) (some (true, (i : Int), default)) none) (false, default, ()) (n - 1) 0) := by
    refine loop_first (n := n - 1) (l := l100c101_0 (n - 1) (d.shift 1) (datC [SV.int IntKind.i64 x]) ((n - 1 : Nat) : Int)) (by omega) (fun f i hi => ?_) (fun f => by simp only [l100c101_0, cdn]; rfl) (n - 1) 0 _ (by omega) (by omega)
    have e : m101 ((d.shift 1).ii i 0) ((d.shift 1).ii i 1) (datC [SV.int IntKind.i64 x]) = decide (x ≤ d.ii (1 + i) 0) := by rw [shift_ii]; rfl
    simp only [l100c101_0, cdl hi, cdd hi, cond_true, Int.toNat_natCast, e]
    cases decide (x ≤ d.ii (1 + i) 0) <;> simp
  have e1 : (((n : Int)) - 1).toNat = n - 1 := by omega
  have z : decide ((0 : Int) ≤ (1 : Int) ∧ (1 : Int) ≤ (n : Int) ∧ (n : Int) ≤ (n : Int)) = true := decide_eq_true ⟨by omega, by omega, by omega⟩
  refine ⟨by simp only [n79, z, e1, n100c101, o]; rfl, ?_⟩
  rcases first_cases (g := fun i : Nat => cond (decide (x ≤ d.ii (1 + i) 0)) (some (true, (i : Int), (default : Unit))) none) (e := (false, default, ())) (n - 1) 0 with ⟨j, b, _, hj, h3, h4, h5⟩ | ⟨h1, _⟩
  · have hc : x ≤ d.ii (1 + j) 0 := by
      apply Decidable.byContradiction
      intro hh
      simp only [decide_eq_false hh, cond_false] at h3; cases h3
    simp only [decide_eq_true hc, cond_true] at h3
    refine ⟨1 + j, by omega, by omega, hc, fun k k1 k2 => ?_, ?_⟩
    · have := h4 (k - 1) (Nat.zero_le _) (by omega)
      rw [show 1 + (k - 1) = k by omega] at this
      apply Decidable.byContradiction
      intro hh
      simp only [decide_eq_true (show x ≤ d.ii k 0 by omega), cond_true] at this; cases this
    · simp only [m79, e1, m100c101, o, h5, ← Option.some.inj h3, Option.getD_some, cond_true]
      rw [wr (by omega) (by omega)]; omega
  · have := h1 (n - 2) (Nat.zero_le _) (by omega)
    rw [show 1 + (n - 2) = n - 1 by omega] at this
    simp only [decide_eq_true hx, cond_true] at this; cases this
def At (n : Nat) (d : Dat) (x num den : Int) : Prop :=
  (∃ k, k < n ∧ x = d.ii k 0 ∧ num = d.ii k 1 ∧ den = 1) ∨ ∃ r, r + 1 < n ∧ d.ii r 0 < x ∧ x < d.ii (r + 1) 0 ∧ num = d.ii r 1 * (d.ii (r + 1) 0 - x) + d.ii (r + 1) 1 * (x - d.ii r 0) ∧ den = d.ii (r + 1) 0 - d.ii r 0
theorem At.bnd {n : Nat} {d : Dat} (T : Trk n d) {x num den : Int} (h : At n d x num den) : (1 ≤ den ∧ den ≤ 1000001) ∧ 0 ≤ num ∧ num ≤ 30000 * den := by
  rcases h with ⟨k, hk, _, rfl, rfl⟩ | ⟨r, hr, h1, h2, rfl, rfl⟩
  · have := T.dep k hk; omega
  · have a := T.dep r (by omega); have b := T.dep (r + 1) hr
    have s1 := T.sec r (by omega); have s2 := T.sec (r + 1) hr
    have u := mulb a.1 a.2 (show 0 ≤ d.ii (r + 1) 0 - x by omega) (Int.le_refl _)
    have v := mulb b.1 b.2 (show 0 ≤ x - d.ii r 0 by omega) (Int.le_refl _)
    omega
theorem at_ok {n : Nat} {d : Dat} (T : Trk n d) {x : Int} (h0 : d.ii 0 0 ≤ x) (hx : x ≤ d.ii (n - 1) 0) : n53 n d x = true ∧ At n d x (m53 n d x).1 (m53 n d x).2 := by
  have two := T.two; have few := T.few
  obtain ⟨n36t, r, r1, rn, hr, hb, e⟩ := leg_ok T hx
  have z0 : decide ((r : Int) = 0) = false := decide_eq_false (by omega)
  have zz : decide ((0 : Int) ≤ (0 : Int) ∧ (0 : Int) < (n : Int)) = true := decide_eq_true ⟨by omega, by omega⟩
  have t1 : IntKind.i64.wrap ((r : Int) - 1) = (r : Int) - 1 := wr (by omega) (by omega)
  have t2 : ((r : Int) - 1).toNat = r - 1 := by omega
  have z1 : decide (0 ≤ (r : Int) - 1 ∧ (r : Int) - 1 < (n : Int)) = true := decide_eq_true ⟨by omega, by omega⟩
  have z2 : decide (0 ≤ (r : Int) ∧ (r : Int) < (n : Int)) = true := decide_eq_true ⟨by omega, by omega⟩
  constructor
  · simp only [n53, n36t, e, z0, zz, t1, z1, z2, cond_true, cond_false]
    cases decide (x = d.ii 0 0) <;> rfl
  · by_cases hx0 : x = d.ii 0 0
    · have : m53 n d x = (d.ii 0 1, 1) := by simp only [m53, e, z0, decide_eq_true hx0, cond_true, cond_false]
      rw [this]
      exact .inl ⟨0, by omega, hx0, rfl, rfl⟩
    · by_cases hxr : x = d.ii r 0
      · have : m53 n d x = (d.ii r 1, 1) := by simp only [m53, e, z0, decide_eq_false hx0, Int.toNat_natCast, decide_eq_true hxr, cond_true, cond_false]
        rw [this]
        exact .inl ⟨r, rn, hxr, rfl, rfl⟩
      · have s0 : d.ii (r - 1) 0 < x := by
          by_cases h : r = 1
          · subst h
            have : (1 : Nat) - 1 = 0 := rfl
            rw [this]; omega
          · exact hb (r - 1) (by omega) (by omega)
        have a := T.dep (r - 1) (by omega); have b := T.dep r rn
        have q1 := T.sec (r - 1) (by omega); have q2 := T.sec r rn
        have w1 : IntKind.i64.wrap (d.ii r 0 - x) = d.ii r 0 - x := wr (by omega) (by omega)
        have w2 : IntKind.i64.wrap (x - d.ii (r - 1) 0) = x - d.ii (r - 1) 0 := wr (by omega) (by omega)
        have w3 : IntKind.i64.wrap (d.ii r 0 - d.ii (r - 1) 0) = d.ii r 0 - d.ii (r - 1) 0 := wr (by omega) (by omega)
        have p1 := mulb a.1 a.2 (show 0 ≤ d.ii r 0 - x by omega) (show d.ii r 0 - x ≤ 1000001 by omega)
        have p2 := mulb b.1 b.2 (show 0 ≤ x - d.ii (r - 1) 0 by omega) (show x - d.ii (r - 1) 0 ≤ 1000001 by omega)
        have : m53 n d x = (d.ii (r - 1) 1 * (d.ii r 0 - x) + d.ii r 1 * (x - d.ii (r - 1) 0), d.ii r 0 - d.ii (r - 1) 0) := by
          simp only [m53, e, z0, decide_eq_false hx0, Int.toNat_natCast, decide_eq_false hxr, t1, t2, w1, w2, w3, cond_true, cond_false]
          rw [wr (n := d.ii (r - 1) 1 * (d.ii r 0 - x)) (by omega) (by omega), wr (n := d.ii r 1 * (x - d.ii (r - 1) 0)) (by omega) (by omega), wr (by omega) (by omega)]
        rw [this]
        refine .inr ⟨r - 1, by omega, s0, ?_, ?_, ?_⟩ <;> rw [show r - 1 + 1 = r by omega]
        omega
theorem At.at_point {n : Nat} {d : Dat} (T : Trk n d) {k : Nat} (hk : k < n) {num den : Int} (h : At n d (d.ii k 0) num den) : num = d.ii k 1 ∧ den = 1 := by
  rcases h with ⟨j, hj, e, h1, h2⟩ | ⟨r, hr, h1, h2, _⟩
  · have : j = k := by
      rcases Nat.lt_trichotomy j k with h | h | h
      · have := T.lt h hk; omega
      · exact h
      · have := T.lt h hj; omega
    subst this; exact ⟨h1, h2⟩
  · exfalso
    by_cases h : k ≤ r
    · have := T.le h (by omega); omega
    · have := T.le (show r + 1 ≤ k by omega) hk; omega
theorem At.between {n : Nat} {d : Dat} (T : Trk n d) {r : Nat} (hr : r + 1 < n) {x num den : Int} (h1 : d.ii r 0 < x) (h2 : x < d.ii (r + 1) 0) (h : At n d x num den) : num = d.ii r 1 * (d.ii (r + 1) 0 - x) + d.ii (r + 1) 1 * (x - d.ii r 0) ∧ den = d.ii (r + 1) 0 - d.ii r 0 := by
  rcases h with ⟨j, hj, e, _, _⟩ | ⟨q, hq, k1, k2, e1, e2⟩
  · exfalso
    by_cases h : j ≤ r
    · have := T.le h (by omega); omega
    · have := T.le (show r + 1 ≤ j by omega) hj; omega
  · have : q = r := by
      rcases Nat.lt_trichotomy q r with h | h | h
      · have := T.le (show q + 1 ≤ r by omega) (by omega); omega
      · exact h
      · have := T.le (show r + 1 ≤ q by omega) (by omega); omega
    subst this; exact ⟨e1, e2⟩
def iabs (x : Int) : Int := if x < 0 then -x else x
theorem imax_abs (y : Int) : imax y (0 - y) = iabs y := by unfold imax iabs; split <;> split <;> omega
theorem apart_ok {n m : Nat} {d e : Dat} (T : Trk n d) (U : Trk m e) {x : Int} (h0 : d.ii 0 0 ≤ x) (hx : x ≤ d.ii (n - 1) 0) (k0 : e.ii 0 0 ≤ x) (kx : x ≤ e.ii (m - 1) 0) : n95 n d m e x = true ∧ ∃ n1 d1 n2 d2, At n d x n1 d1 ∧ At m e x n2 d2 ∧ m95 n d m e x = (iabs (n1 * d2 - n2 * d1), d1 * d2) := by
  obtain ⟨a1, a2⟩ := at_ok T h0 hx
  obtain ⟨b1, b2⟩ := at_ok U k0 kx
  refine ⟨by simp only [n95, a1, b1]; rfl, _, _, _, _, a2, b2, ?_⟩
  have A := a2.bnd T
  have B := b2.bnd U
  simp only [m95]
  generalize (m53 n d x).1 = n1 at *
  generalize (m53 n d x).2 = d1 at *
  generalize (m53 m e x).1 = n2 at *
  generalize (m53 m e x).2 = d2 at *
  have p1 := mulb A.2.1 (show n1 ≤ 30000030000 by omega) (show 0 ≤ d2 by omega) B.1.2
  have p2 := mulb B.2.1 (show n2 ≤ 30000030000 by omega) (show 0 ≤ d1 by omega) A.1.2
  have p3 := mulb (show 0 ≤ d1 by omega) A.1.2 (show 0 ≤ d2 by omega) B.1.2
  have c : d2 * d1 = d1 * d2 := Int.mul_comm _ _
  rw [wr (n := n1 * d2) (by omega) (by omega), wr (n := n2 * d1) (by omega) (by omega), wr (n := n1 * d2 - n2 * d1) (by omega) (by omega), wr (n := 0 - (n1 * d2 - n2 * d1)) (by omega) (by omega), imax_abs, wr (n := d1 * d2) (by omega) (by omega)]
def okAt (d : Dat) (M : Int) (i j k : Nat) : Prop := iabs ((d.ii i 1 * (d.ii j 0 - d.ii k 0) + d.ii j 1 * (d.ii k 0 - d.ii i 0)) - d.ii k 1 * (d.ii j 0 - d.ii i 0)) ≤ M * (d.ii j 0 - d.ii i 0)
def Ok (d : Dat) (M : Int) (i j : Nat) : Prop := ∀ k, i < k → k < j → okAt d M i j k
theorem iabs_bnd {x B : Int} (h1 : -B ≤ x) (h2 : x ≤ B) : 0 ≤ iabs x ∧ iabs x ≤ B := by unfold iabs; split <;> omega
theorem two_trk {s0 z0 s1 z1 : Int} (h : s0 < s1) (a : 0 ≤ s0 ∧ s1 ≤ 1000001) (b : 0 ≤ z0 ∧ z0 ≤ 30000) (c : 0 ≤ z1 ∧ z1 ≤ 30000) : Trk 2 (datS [SV.int IntKind.i64 s0, SV.int IntKind.i64 z0, SV.int IntKind.i64 s1, SV.int IntKind.i64 z1] 2) where
  two := Nat.le_refl 2
  few := by decide
  sec i hi := by
    rcases (by omega : i = 0 ∨ i = 1) with rfl | rfl
    · show 0 ≤ s0 ∧ s0 ≤ _; omega
    · show 0 ≤ s1 ∧ s1 ≤ _; omega
  dep i hi := by
    rcases (by omega : i = 0 ∨ i = 1) with rfl | rfl
    · exact b
    · exact c
  up i hi := by
    obtain rfl : i = 0 := by omega
    exact h
theorem allow_ok {n : Nat} {d : Dat} (P : Pts n d) {M : Int} (hM : 0 ≤ M ∧ M ≤ 30000) {i j : Nat} (hij : i < j) (hj : j < n) : n84 n d (i : Int) (j : Int) M = true ∧ (m84 n d (i : Int) (j : Int) M = true ↔ Ok d M i j) := by
  have few := P.few
  have T := P.trk
  have w : IntKind.i64.wrap ((i : Int) + 1) = ((i + 1 : Nat) : Int) := wrS (show i < n by omega) (by omega)
  have e1 : ((j : Int) - ((i + 1 : Nat) : Int)).toNat = j - (i + 1) := by omega
  obtain ⟨line, hline⟩ : ∃ l, l = datS [SV.int IntKind.i64 (d.ii i 0), SV.int IntKind.i64 (d.ii i 1), SV.int IntKind.i64 (d.ii j 0), SV.int IntKind.i64 (d.ii j 1)] 2 := ⟨_, rfl⟩
  have si := P.sec i (by omega); have sj := P.sec j hj
  have TL : Trk 2 line := by rw [hline]; exact two_trk (T.lt hij hj) ⟨si.1, by omega⟩ (P.dep i (by omega)) (P.dep j hj)
  obtain ⟨C, hC⟩ : ∃ C, C = datC [SV.ro [Kd.int IntKind.i64, Kd.int IntKind.i64] 2 line] := ⟨_, rfl⟩
  have c1 : C.sn 0 0 = 2 := by rw [hC]; rfl
  have c2 : C.sub 0 0 = line := by rw [hC]; rfl
  have l0 : line.ii 0 0 = d.ii i 0 := by rw [hline]; rfl
  have l1 : line.ii 0 1 = d.ii i 1 := by rw [hline]; rfl
  have l2 : line.ii 1 0 = d.ii j 0 := by rw [hline]; rfl
  have l3 : line.ii 1 1 = d.ii j 1 := by rw [hline]; rfl
  -- one point
  have pt : ∀ t, t < j - (i + 1) → n106 ((d.shift (i + 1)).ii t 0) ((d.shift (i + 1)).ii t 1) (datC [SV.int IntKind.i64 M]) C = true ∧ (m106 ((d.shift (i + 1)).ii t 0) ((d.shift (i + 1)).ii t 1) (datC [SV.int IntKind.i64 M]) C = true ↔ ¬ okAt d M i j (i + 1 + t)) := fun t ht => by
    have hk1 := T.lt (show i < i + 1 + t by omega) (show i + 1 + t < n by omega)
    have hk2 := T.lt (show i + 1 + t < j by omega) hj
    have sk := P.sec (i + 1 + t) (by omega); have dk := P.dep (i + 1 + t) (by omega)
    have w2 : IntKind.i64.wrap (d.ii (i + 1 + t) 0 + 1) = d.ii (i + 1 + t) 0 + 1 := wr (by omega) (by omega)
    have TU := two_trk (s0 := d.ii (i + 1 + t) 0) (z0 := d.ii (i + 1 + t) 1) (s1 := d.ii (i + 1 + t) 0 + 1) (z1 := 0) (by omega) ⟨sk.1, by omega⟩ dk ⟨by omega, by omega⟩
    have ap := apart_ok TL TU (x := d.ii (i + 1 + t) 0) (by rw [l0]; omega) (by show _ ≤ line.ii 1 0; rw [l2]; omega) (by show d.ii (i + 1 + t) 0 ≤ _; omega) (by show d.ii (i + 1 + t) 0 ≤ d.ii (i + 1 + t) 0 + 1; omega)
    obtain ⟨g1, n1, d1, n2, d2, A, B, ge⟩ := ap
    obtain ⟨rfl, rfl⟩ := A.between TL (r := 0) (by decide) (by rw [l0]; omega) (by show _ < line.ii 1 0; rw [l2]; omega)
    have B' : At 2 (datS [SV.int IntKind.i64 (d.ii (i + 1 + t) 0), SV.int IntKind.i64 (d.ii (i + 1 + t) 1), SV.int IntKind.i64 (d.ii (i + 1 + t) 0 + 1), SV.int IntKind.i64 0] 2) ((datS [SV.int IntKind.i64 (d.ii (i + 1 + t) 0), SV.int IntKind.i64 (d.ii (i + 1 + t) 1), SV.int IntKind.i64 (d.ii (i + 1 + t) 0 + 1), SV.int IntKind.i64 0] 2).ii 0 0) n2 d2 := B
    obtain ⟨e2, e3⟩ := B'.at_point TU (k := 0) (by decide)
    have e2 : n2 = d.ii (i + 1 + t) 1 := e2
    subst e2; subst e3
    have zl : (0 : Nat) + 1 = 1 := rfl
    rw [zl, l0, l1, l2, l3] at ge
    constructor
    · simp only [n106, shift_ii, w2, c1, c2, g1]; rfl
    · have ai := P.dep i (by omega); have aj := P.dep j hj
      have q1 := mulb ai.1 ai.2 (show 0 ≤ d.ii j 0 - d.ii (i + 1 + t) 0 by omega) (show d.ii j 0 - d.ii (i + 1 + t) 0 ≤ 1000000 by omega)
      have q2 := mulb aj.1 aj.2 (show 0 ≤ d.ii (i + 1 + t) 0 - d.ii i 0 by omega) (show d.ii (i + 1 + t) 0 - d.ii i 0 ≤ 1000000 by omega)
      have q3 := mulb dk.1 dk.2 (show 0 ≤ d.ii j 0 - d.ii i 0 by omega) (show d.ii j 0 - d.ii i 0 ≤ 1000000 by omega)
      have q4 := mulb hM.1 hM.2 (show 0 ≤ d.ii j 0 - d.ii i 0 by omega) (show d.ii j 0 - d.ii i 0 ≤ 1000000 by omega)
      have em : m106 ((d.shift (i + 1)).ii t 0) ((d.shift (i + 1)).ii t 1) (datC [SV.int IntKind.i64 M]) C = m63 M 1 (m95 2 line 2 (datS [SV.int IntKind.i64 (d.ii (i + 1 + t) 0), SV.int IntKind.i64 (d.ii (i + 1 + t) 1), SV.int IntKind.i64 (d.ii (i + 1 + t) 0 + 1), SV.int IntKind.i64 0] 2) (d.ii (i + 1 + t) 0)).1 (m95 2 line 2 (datS [SV.int IntKind.i64 (d.ii (i + 1 + t) 0), SV.int IntKind.i64 (d.ii (i + 1 + t) 1), SV.int IntKind.i64 (d.ii (i + 1 + t) 0 + 1), SV.int IntKind.i64 0] 2) (d.ii (i + 1 + t) 0)).2 := by
        simp only [m106, shift_ii, w2, c1, c2]; rfl
      rw [em, ge, Int.mul_one, Int.mul_one]
      have ab := iabs_bnd (x := d.ii i 1 * (d.ii j 0 - d.ii (i + 1 + t) 0) + d.ii j 1 * (d.ii (i + 1 + t) 0 - d.ii i 0) - d.ii (i + 1 + t) 1 * (d.ii j 0 - d.ii i 0)) (B := 60000000000) (by omega) (by omega)
      simp only [m63, okAt]
      generalize iabs (d.ii i 1 * (d.ii j 0 - d.ii (i + 1 + t) 0) + d.ii j 1 * (d.ii (i + 1 + t) 0 - d.ii i 0) - d.ii (i + 1 + t) 1 * (d.ii j 0 - d.ii i 0)) = A at *
      rw [wr (n := M * (d.ii j 0 - d.ii i 0)) (by omega) (by omega), Int.mul_one, wr (n := A) (by omega) (by omega)]
      rw [decide_eq_true_iff]; omega
  have o : o100c106_0 (j - (i + 1)) (d.shift (i + 1)) (datC [SV.int IntKind.i64 M]) C ((j - (i + 1) : Nat) : Int) 0 = some (first (fun t => cond (m106 ((d.shift (i + 1)).ii t 0) ((d.shift (i + 1)).ii t 1) (datC [SV.int IntKind.i64 M]) C) (some (true, (t : Int), default)) none) (false, default, ()) (j - (i + 1)) 0) := by
    refine loop_first (n := j - (i + 1)) (l := l100c106_0 (j - (i + 1)) (d.shift (i + 1)) (datC [SV.int IntKind.i64 M]) C ((j - (i + 1) : Nat) : Int)) (by omega) (fun f t ht => ?_) (fun f => by simp only [l100c106_0, cdn]; rfl) (j - (i + 1)) 0 _ (by omega) (by omega)
    simp only [l100c106_0, cdl ht, cdd ht, cond_true, Int.toNat_natCast, (pt t ht).1]
    cases m106 ((d.shift (i + 1)).ii t 0) ((d.shift (i + 1)).ii t 1) (datC [SV.int IntKind.i64 M]) C <;> simp
  have zi : decide (0 ≤ (i : Int) ∧ (i : Int) < (n : Int)) = true := decide_eq_true ⟨by omega, by omega⟩
  have zj : decide (0 ≤ (j : Int) ∧ (j : Int) < (n : Int)) = true := decide_eq_true ⟨by omega, by omega⟩
  have zs : decide (0 ≤ ((i + 1 : Nat) : Int) ∧ ((i + 1 : Nat) : Int) ≤ (j : Int) ∧ (j : Int) ≤ (n : Int)) = true := decide_eq_true ⟨by omega, by omega, by omega⟩
  have t3 : ((i + 1 : Nat) : Int).toNat = i + 1 := by omega
  constructor
  · simp only [n84, w, e1, t3, Int.toNat_natCast, ← hline, ← hC, n105c106, n100c106, o, zi, zj, zs]; rfl
  · simp only [m84, w, e1, t3, Int.toNat_natCast, ← hline, ← hC, m105c106, m100c106, o, Option.getD_some]
    rcases first_cases (g := fun t : Nat => cond (m106 ((d.shift (i + 1)).ii t 0) ((d.shift (i + 1)).ii t 1) (datC [SV.int IntKind.i64 M]) C) (some (true, (t : Int), (default : Unit))) none) (e := (false, default, ())) (j - (i + 1)) 0 with ⟨t, b, _, ht, h3, _, h5⟩ | ⟨h1, h2⟩
    · have hm : m106 ((d.shift (i + 1)).ii t 0) ((d.shift (i + 1)).ii t 1) (datC [SV.int IntKind.i64 M]) C = true := by
        cases hh : m106 ((d.shift (i + 1)).ii t 0) ((d.shift (i + 1)).ii t 1) (datC [SV.int IntKind.i64 M]) C with
        | true => rfl
        | false => simp only [hh, cond_false] at h3; cases h3
      simp only [hm, cond_true] at h3
      rw [h5, ← Option.some.inj h3]
      simp only [cond_true, decide_eq_true (show (0 : Int) ≤ (t : Int) by omega)]
      refine ⟨fun h => (by cases h), fun h => ((pt t (by omega)).2.1 hm (h _ (by omega) (by omega))).elim⟩
    · rw [h2]
      simp only [cond_false, decide_eq_false (show ¬ (0 : Int) ≤ -1 by omega)]
      refine ⟨fun _ k k1 k2 => ?_, fun _ => trivial⟩
      apply Classical.byContradiction
      intro hh
      have := h1 (k - (i + 1)) (Nat.zero_le _) (by omega)
      have e : i + 1 + (k - (i + 1)) = k := by omega
      have hm := (pt (k - (i + 1)) (by omega)).2.2 (by rw [e]; exact hh)
      simp only [hm, cond_true] at this; cases this
end Go.Proofs.YtchhhoamnagbfaaDoor

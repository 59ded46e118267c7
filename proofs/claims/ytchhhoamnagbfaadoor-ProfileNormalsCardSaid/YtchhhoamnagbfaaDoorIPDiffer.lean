/-
  The first second at which two plans differ: plain law. Conditions: none.
-/
import Derived.Test.YtchhhoamnagbfaaDoorIPNormR
namespace Go.Proofs.YtchhhoamnagbfaaDoor
open Go Go.Sy
set_option linter.unusedVariables false
set_option linter.unusedSimpArgs false
set_option maxRecDepth 100000
def On (L : Nat) (e : Dat) (s : Int) (r : Nat) : Prop := r < L ∧ sm e r < s ∧ s ≤ sm e (r + 1)
def Ln (e : Dat) (r : Nat) (s : Int) : Int := dp e r * (sm e (r + 1) - s) + dp e (r + 1) * (s - sm e r)
def Alike (g e : Dat) (r : Nat) (g' e' : Dat) (k : Nat) (s : Int) : Prop := gx g e r = gx g' e' k ∧ gy g e r = gy g' e' k ∧ Ln e r s * e'.ii k 0 = Ln e' k s * e.ii r 0
def DiffAt (L : Nat) (g e : Dat) (L' : Nat) (g' e' : Dat) (s : Int) : Prop := ∃ r k, On L e s r ∧ On L' e' s k ∧ ¬ Alike g e r g' e' k s
section
variable {a : ByteArray} {b : Int} {ng : Nat} {g : Dat} {L : Nat} {e : Dat}
theorem Pln.lt (P : Pln a b ng g L e) : ∀ {i j : Nat}, i < j → j ≤ L → sm e i < sm e j
  | i, 0, h, _ => absurd h (Nat.not_lt_zero _)
  | i, j + 1, h, hj => by
    have l := P.leg0 (show j < L by omega)
    have s : sm e (j + 1) = sm e j + e.ii j 0 := rfl
    by_cases hh : i = j
    · subst hh; omega
    · have := P.lt (i := i) (j := j) (by omega) (by omega); omega
theorem Pln.le (P : Pln a b ng g L e) {i j : Nat} (h : i ≤ j) (hj : j ≤ L) : sm e i ≤ sm e j := by
  by_cases hh : i = j
  · subst hh; exact Int.le_refl _
  · exact Int.le_of_lt (P.lt (by omega) hj)
theorem On.one (P : Pln a b ng g L e) {s : Int} {r r' : Nat} (h : On L e s r) (h' : On L e s r') : r = r' := by
  rcases Nat.lt_trichotomy r r' with c | c | c
  · have := P.le (show r + 1 ≤ r' by omega) (by have := h'.1; omega); have := h.2.2; have := h'.2.1; omega
  · exact c
  · have := P.le (show r' + 1 ≤ r by omega) (by have := h.1; omega); have := h'.2.2; have := h.2.1; omega
theorem two_points (P : Pln a b ng g L e) {D : Dat} (hD : PtsOf e (L + 1) D) {s : Int} {r : Nat} (h : On L e s r) : n53 2 (D.shift r) s = true ∧ (1 ≤ (m53 2 (D.shift r) s).2 ∧ (m53 2 (D.shift r) s).2 ≤ 1000001) ∧ (0 ≤ (m53 2 (D.shift r) s).1 ∧ (m53 2 (D.shift r) s).1 ≤ 30000030000) ∧ (m53 2 (D.shift r) s).1 * e.ii r 0 = Ln e r s * (m53 2 (D.shift r) s).2 := by
  obtain ⟨h1, h2, h3⟩ := h
  have d0 := hD r (by omega); have d1 := hD (r + 1) (by omega)
  have i0 : (D.shift r).ii 0 0 = sm e r := by rw [shift_ii]; exact d0.1
  have i1 : (D.shift r).ii 1 0 = sm e (r + 1) := by rw [shift_ii]; exact d1.1
  have j0 : (D.shift r).ii 0 1 = dp e r := by rw [shift_ii]; exact d0.2
  have j1 : (D.shift r).ii 1 1 = dp e (r + 1) := by rw [shift_ii]; exact d1.2
  have es : sm e (r + 1) = sm e r + e.ii r 0 := rfl
  have n0 := P.nonneg (show r ≤ L by omega); have t1 := P.sum (r + 1) (by omega); have l := P.leg0 h1
  have p0 := P.dep (show r ≤ L by omega); have p1 := P.dep (show r + 1 ≤ L by omega)
  have T : Trk 2 (D.shift r) := ⟨by decide, by decide, fun i hi => by
      rcases (show i = 0 ∨ i = 1 by omega) with rfl | rfl
      · rw [i0]; omega
      · rw [i1]; omega, fun i hi => by
      rcases (show i = 0 ∨ i = 1 by omega) with rfl | rfl
      · rw [j0]; exact p0
      · rw [j1]; exact p1, fun i hi => by
      obtain rfl : i = 0 := by omega
      rw [i0, i1]; omega⟩
  obtain ⟨a1, a2⟩ := at_ok T (x := s) (by rw [i0]; omega) (by rw [i1]; exact h3)
  have bd := a2.bnd T
  refine ⟨a1, bd.1, ⟨bd.2.1, by omega⟩, ?_⟩
  unfold Ln
  rcases a2 with ⟨k, hk, q1, q2, q3⟩ | ⟨k, hk, q1, q2, q3, q4⟩
  · rcases (show k = 0 ∨ k = 1 by omega) with rfl | rfl
    · rw [i0] at q1; omega
    · rw [q2, q3, j1, Int.mul_one]
      rw [i1] at q1
      rw [q1, Int.sub_self, Int.mul_zero, Int.zero_add, show sm e (r + 1) - sm e r = e.ii r 0 by omega]
  · obtain rfl : k = 0 := by omega
    rw [q3, q4, i0, i1, j0, j1, show sm e (r + 1) - sm e r = e.ii r 0 by omega]
theorem find_leg (P : Pln a b ng g L e) {D : Dat} (hD : PtsOf e (L + 1) D) {s : Int} (hs : s ≤ sm e L) (c0 : Nat) (c1 : Dat) (c2 : Int) (d0 : ByteArray) (d1 : Int) (d2 : Nat) (d3 : Dat) (d4 : Nat) (d5 : Dat) (d6 : ByteArray) (d7 : Int) (d8 : Nat) (d9 : Dat) (d10 : Nat) (d11 : Dat) (d12 : Dat) : ∀ (k i f : Nat), i + k = L → k < f → ∃ r, i ≤ r ∧ r ≤ L ∧ s ≤ sm e r ∧ (∀ j, i ≤ j → j < r → sm e j < s) ∧
    l42_2 (L + 1) D c0 c1 c2 s d0 d1 d2 d3 d4 d5 d6 d7 d8 d9 d10 d11 d12 f (i : Int) = some (r : Int)
  | 0, i, f, hi, hf => by
    obtain ⟨f, rfl⟩ : ∃ f0, f = f0 + 1 := ⟨f - 1, by omega⟩
    obtain rfl : i = L := by omega
    have z : decide (0 ≤ (i : Int) ∧ (i : Int) < ((i + 1 : Nat) : Int)) = true := decide_eq_true ⟨by omega, by omega⟩
    refine ⟨i, Nat.le_refl _, Nat.le_refl _, hs, fun j _ _ => by omega, ?_⟩
    simp only [l42_2, z, Int.toNat_natCast, (hD i (by omega)).1, decide_eq_false (show ¬ sm e i < s by omega), cond_true, cond_false]
  | k + 1, i, f, hi, hf => by
    obtain ⟨f, rfl⟩ : ∃ f0, f = f0 + 1 := ⟨f - 1, by omega⟩
    have hL := P.legs
    have z : decide (0 ≤ (i : Int) ∧ (i : Int) < ((L + 1 : Nat) : Int)) = true := decide_eq_true ⟨by omega, by omega⟩
    by_cases h : sm e i < s
    · obtain ⟨r, r1, r2, r3, r4, r5⟩ := find_leg P hD hs c0 c1 c2 d0 d1 d2 d3 d4 d5 d6 d7 d8 d9 d10 d11 d12 k (i + 1) f (by omega) (by omega)
      refine ⟨r, by omega, r2, r3, fun j j1 j2 => ?_, ?_⟩
      · by_cases hj : j = i
        · subst hj; exact h
        · exact r4 j (by omega) j2
      · simp only [l42_2, z, Int.toNat_natCast, (hD i (by omega)).1, decide_eq_true h, cond_true, wrS (show i < L + 1 by omega) (by omega)]
        exact r5
    · refine ⟨i, Nat.le_refl _, by omega, by omega, fun j _ _ => by omega, ?_⟩
      simp only [l42_2, z, Int.toNat_natCast, (hD i (by omega)).1, decide_eq_false h, cond_true, cond_false]
theorem find_leg' (P : Pln a b ng g L e) {D : Dat} (hD : PtsOf e (L + 1) D) {s : Int} (hs : s ≤ sm e L) (c0 : Nat) (c1 : Dat) (c2 : Int) (d0 : ByteArray) (d1 : Int) (d2 : Nat) (d3 : Dat) (d4 : Nat) (d5 : Dat) (d6 : ByteArray) (d7 : Int) (d8 : Nat) (d9 : Dat) (d10 : Nat) (d11 : Dat) (d12 : Dat) : ∀ (k i f : Nat), i + k = L → k < f → ∃ r, i ≤ r ∧ r ≤ L ∧ s ≤ sm e r ∧ (∀ j, i ≤ j → j < r → sm e j < s) ∧
    l42_4 c0 c1 (L + 1) D c2 s d0 d1 d2 d3 d4 d5 d6 d7 d8 d9 d10 d11 d12 f (i : Int) = some (r : Int)
  | 0, i, f, hi, hf => by
    obtain ⟨f, rfl⟩ : ∃ f0, f = f0 + 1 := ⟨f - 1, by omega⟩
    obtain rfl : i = L := by omega
    have z : decide ((0 : Int) ≤ (i : Int) ∧ (i : Int) < ((i + 1 : Nat) : Int)) = true := decide_eq_true ⟨by omega, by omega⟩
    refine ⟨i, Nat.le_refl _, Nat.le_refl _, hs, fun j _ _ => by omega, ?_⟩
    simp only [l42_4, z, Int.toNat_natCast, (hD i (by omega)).1, decide_eq_false (show ¬ sm e i < s by omega), cond_true, cond_false]
  | k + 1, i, f, hi, hf => by
    obtain ⟨f, rfl⟩ : ∃ f0, f = f0 + 1 := ⟨f - 1, by omega⟩
    have hL := P.legs
    have z : decide ((0 : Int) ≤ (i : Int) ∧ (i : Int) < ((L + 1 : Nat) : Int)) = true := decide_eq_true ⟨by omega, by omega⟩
    by_cases h : sm e i < s
    · obtain ⟨r, r1, r2, r3, r4, r5⟩ := find_leg' P hD hs c0 c1 c2 d0 d1 d2 d3 d4 d5 d6 d7 d8 d9 d10 d11 d12 k (i + 1) f (by omega) (by omega)
      refine ⟨r, by omega, r2, r3, fun j j1 j2 => ?_, ?_⟩
      · by_cases hj : j = i
        · subst hj; exact h
        · exact r4 j (by omega) j2
      · simp only [l42_4, z, Int.toNat_natCast, (hD i (by omega)).1, decide_eq_true h, cond_true, wrS (show i < L + 1 by omega) (by omega)]
        exact r5
    · refine ⟨i, Nat.le_refl _, by omega, by omega, fun j _ _ => by omega, ?_⟩
      simp only [l42_4, z, Int.toNat_natCast, (hD i (by omega)).1, decide_eq_false h, cond_true, cond_false]
end
theorem alike_frac {x y p q p' q' u v : Int} (hu : 0 < u) (hv : 0 < v) (hq : 0 < q) (hq' : 0 < q') (h1 : p * u = x * q) (h2 : p' * v = y * q') : (p * q' = p' * q ↔ x * v = y * u) := by
  constructor
  · intro h
    have : (x * v) * (q * q') = (y * u) * (q * q') := by
      have e1 : (x * v) * (q * q') = (x * q) * (v * q') := by ac_rfl
      have e2 : (y * u) * (q * q') = (y * q') * (u * q) := by ac_rfl
      rw [e1, e2, ← h1, ← h2]
      have e3 : p * u * (v * q') = (p * q') * (u * v) := by ac_rfl
      have e4 : p' * v * (u * q) = (p' * q) * (u * v) := by ac_rfl
      rw [e3, e4, h]
    exact Int.eq_of_mul_eq_mul_right (Int.ne_of_gt (Int.mul_pos hq hq')) this
  · intro h
    have : (p * q') * (u * v) = (p' * q) * (u * v) := by
      have e3 : (p * q') * (u * v) = (p * u) * (v * q') := by ac_rfl
      have e4 : (p' * q) * (u * v) = (p' * v) * (u * q) := by ac_rfl
      rw [e3, e4, h1, h2]
      have e1 : x * q * (v * q') = (x * v) * (q * q') := by ac_rfl
      have e2 : y * q' * (u * q) = (y * u) * (q * q') := by ac_rfl
      rw [e1, e2, h]
    exact Int.eq_of_mul_eq_mul_right (Int.ne_of_gt (Int.mul_pos hu hv)) this
section
variable {a : ByteArray} {b : Int} {ng : Nat} {g : Dat} {L : Nat} {e : Dat} {a' : ByteArray} {b' : Int} {ng' : Nat} {g' : Dat} {L' : Nat} {e' : Dat}
def Found (L : Nat) (g e : Dat) (L' : Nat) (g' e' : Dat) (M s : Nat) (r : Bool × (Int × Int) × Unit) : Prop :=
  (r = (false, default, ()) ∧ ∀ s' : Nat, s ≤ s' → s' ≤ M → (s' : Int) ≤ sm e L ∧ (s' : Int) ≤ sm e' L' ∧ ¬ DiffAt L g e L' g' e' s') ∨
  ∃ s1 : Nat, s ≤ s1 ∧ s1 ≤ M ∧ r = (true, ((s1 : Int), 0), default) ∧ (∀ s' : Nat, s ≤ s' → s' < s1 → (s' : Int) ≤ sm e L ∧ (s' : Int) ≤ sm e' L' ∧ ¬ DiffAt L g e L' g' e' s') ∧ (sm e L < (s1 : Int) ∨ sm e' L' < (s1 : Int) ∨ DiffAt L g e L' g' e' s1)
theorem Found.back {M s : Nat} {r : Bool × (Int × Int) × Unit} (h0 : (s : Int) ≤ sm e L ∧ (s : Int) ≤ sm e' L' ∧ ¬ DiffAt L g e L' g' e' s) (h : Found L g e L' g' e' M (s + 1) r) : Found L g e L' g' e' M s r := by
  rcases h with ⟨h1, h2⟩ | ⟨s1, h1, h2, h3, h4, h5⟩
  · refine .inl ⟨h1, fun s' k1 k2 => ?_⟩
    by_cases hs : s' = s
    · subst hs; exact h0
    · exact h2 s' (by omega) k2
  · refine .inr ⟨s1, by omega, h2, h3, fun s' k1 k2 => ?_, h5⟩
    by_cases hs : s' = s
    · subst hs; exact h0
    · exact h4 s' (by omega) k2
theorem differ_run (P : Pln a b ng g L e) (Q : Pln a' b' ng' g' L' e') {D D' : Dat} (hD : PtsOf e (L + 1) D) (hD' : PtsOf e' (L' + 1) D') (x : Dat) (M : Nat) (hM : (M : Int) = imax (sm e L) (sm e' L')) :
    ∀ (k s i j f : Nat), s + k = M + 1 → k < f → 1 ≤ i → 1 ≤ j → (1 ≤ s → (i ≤ L ∨ sm e L < (s : Int)) ∧ (j ≤ L' ∨ sm e' L' < (s : Int)) ∧ (∀ q, q < i → q ≤ L → sm e q < (s : Int)) ∧ (∀ q, q < j → q ≤ L' → sm e' q < (s : Int))) → (s = 0 → i = 1 ∧ j = 1) →
    ∃ r, l42_0 (L + 1) D (L' + 1) D' a b ng g L e a' b' ng' g' L' e' x f (i : Int) (j : Int) (s : Int) = some r ∧ Found L g e L' g' e' M s r
  | 0, s, i, j, f, hs, hf, hi, hj, hI, h00 => by
    obtain ⟨f, rfl⟩ : ∃ f0, f = f0 + 1 := ⟨f - 1, by omega⟩
    obtain ⟨e1, e2⟩ := end_ok P hD
    obtain ⟨k1, k2⟩ := end_ok Q hD'
    have z : decide ((s : Int) ≤ imax (sm e L) (sm e' L')) = false := decide_eq_false (by omega)
    exact ⟨(false, default, ()), by simp only [l42_0, e1, e2, k1, k2, z, cond_true, cond_false], .inl ⟨rfl, fun s' h1 h2 => by omega⟩⟩
  | k + 1, s, i, j, f, hs, hf, hi, hj, hI, h00 => by
    obtain ⟨f, rfl⟩ : ∃ f0, f = f0 + 1 := ⟨f - 1, by omega⟩
    obtain ⟨e1, e2⟩ := end_ok P hD
    obtain ⟨k1, k2⟩ := end_ok Q hD'
    have hL := P.legs; have hL' := Q.legs
    have tP := P.sum L (Nat.le_refl _); have tQ := Q.sum L' (Nat.le_refl _)
    have nP := P.nonneg (Nat.le_refl L); have nQ := Q.nonneg (Nat.le_refl L')
    have z : decide ((s : Int) ≤ imax (sm e L) (sm e' L')) = true := decide_eq_true (by omega)
    have hMb : (M : Int) ≤ 1000000 := by rw [hM]; unfold imax; split <;> omega
    have ws : IntKind.i64.wrap ((s : Int) + 1) = ((s + 1 : Nat) : Int) := by rw [wr (by omega) (by omega)]; omega
    by_cases c1 : sm e L < (s : Int)
    · refine ⟨(true, ((s : Int), 0), default), ?_, .inr ⟨s, Nat.le_refl _, by omega, rfl, fun s' h1 h2 => by omega, .inl c1⟩⟩
      simp only [l42_0, e1, e2, k1, k2, z, decide_eq_true c1, cond_true, cond_false, Bool.cond_self]
    by_cases c2 : sm e' L' < (s : Int)
    · refine ⟨(true, ((s : Int), 0), default), ?_, .inr ⟨s, Nat.le_refl _, by omega, rfl, fun s' h1 h2 => by omega, .inr (.inl c2)⟩⟩
      simp only [l42_0, e1, e2, k1, k2, z, decide_eq_false c1, decide_eq_true c2, cond_true, cond_false, Bool.cond_self]
    by_cases hz : s = 0
    · subst hz
      obtain ⟨rfl, rfl⟩ := h00 rfl
      obtain ⟨r, r1, r2⟩ := differ_run P Q hD hD' x M hM k 1 1 1 f (by omega) (by omega) (by omega) (by omega) (fun _ => ⟨by
          by_cases h : 1 ≤ L
          · exact .inl h
          · right; rw [show L = 0 by omega]; simp only [sm]; decide, by
          by_cases h : 1 ≤ L'
          · exact .inl h
          · right; rw [show L' = 0 by omega]; simp only [sm]; decide, fun q h _ => by rw [show q = 0 by omega]; simp only [sm]; decide, fun q h _ => by rw [show q = 0 by omega]; simp only [sm]; decide⟩) (fun h => by omega)
      refine ⟨r, ?_, r2.back ⟨by omega, by omega, fun ⟨r, k, h1, _⟩ => ?_⟩⟩
      · have z0 : decide (((0 : Nat) : Int) = 0) = true := rfl
        have ws' : IntKind.i64.wrap (((0 : Nat) : Int) + 1) = ((1 : Nat) : Int) := ws
        simp only [l42_0, e1, e2, k1, k2, z, decide_eq_false c1, decide_eq_false c2, z0, ws', cond_true, cond_false, Bool.cond_self]
        exact r1
      · have := h1.2.1; have := P.nonneg (show r ≤ L by have := h1.1; omega); omega
    obtain ⟨hI1, hJ1, hI2, hJ2⟩ := hI (by omega)
    have hiL : i ≤ L := by rcases hI1 with h | h <;> omega
    have hjL : j ≤ L' := by rcases hJ1 with h | h <;> omega
    have z0 : decide ((s : Int) = 0) = false := decide_eq_false (by omega)
    obtain ⟨r, r1, r2, r3, r4, r5⟩ := find_leg P hD (s := (s : Int)) (by omega) (L' + 1) D' (j : Int) a b ng g L e a' b' ng' g' L' e' x (L - i) i (L + 1 + (L' + 1) + (i : Int).toNat + (j : Int).toNat + (s : Int).toNat + a.size + b.toNat + ng + L + a'.size + b'.toNat + ng' + L' + 8) (by omega) (by omega)
    have o2 : o42_2 (L + 1) D (L' + 1) D' (j : Int) (s : Int) a b ng g L e a' b' ng' g' L' e' x (i : Int) = some (r : Int) := r5
    obtain ⟨q, q1, q2, q3, q4, q5⟩ := find_leg' Q hD' (s := (s : Int)) (by omega) (L + 1) D (r : Int) a b ng g L e a' b' ng' g' L' e' x (L' - j) j (L + 1 + (L' + 1) + (r : Int).toNat + (j : Int).toNat + (s : Int).toNat + a.size + b.toNat + ng + L + a'.size + b'.toNat + ng' + L' + 8) (by omega) (by omega)
    have o4 : o42_4 (L + 1) D (L' + 1) D' (r : Int) (s : Int) a b ng g L e a' b' ng' g' L' e' x (j : Int) = some (q : Int) := q5
    have onP : On L e (s : Int) (r - 1) := ⟨by omega, by
      by_cases h : i ≤ r - 1
      · exact r4 (r - 1) h (by omega)
      · exact hI2 (r - 1) (by omega) (by omega), by rw [show r - 1 + 1 = r by omega]; exact r3⟩
    have onQ : On L' e' (s : Int) (q - 1) := ⟨by omega, by
      by_cases h : j ≤ q - 1
      · exact q4 (q - 1) h (by omega)
      · exact hJ2 (q - 1) (by omega) (by omega), by rw [show q - 1 + 1 = q by omega]; exact q3⟩
    obtain ⟨u1, u2, u3, u4⟩ := two_points P hD onP
    obtain ⟨v1, v2, v3, v4⟩ := two_points Q hD' onQ
    have lp := P.leg (r - 1) (by omega); have lq := Q.leg (q - 1) (by omega)
    have lp0 : 1 ≤ e.ii (r - 1) 0 := lp.1.1
    have lq0 : 1 ≤ e'.ii (q - 1) 0 := lq.1.1
    have w1 : IntKind.i64.wrap ((r : Int) - 1) = (r : Int) - 1 := wr (by omega) (by omega)
    have w2 : IntKind.i64.wrap ((q : Int) - 1) = (q : Int) - 1 := wr (by omega) (by omega)
    have w3 : IntKind.i64.wrap ((r : Int) + 1) = (r : Int) + 1 := wr (by omega) (by omega)
    have w4 : IntKind.i64.wrap ((q : Int) + 1) = (q : Int) + 1 := wr (by omega) (by omega)
    have x1 : ((r : Int) - 1).toNat = r - 1 := by omega
    have x2 : ((q : Int) - 1).toNat = q - 1 := by omega
    have x3 : ((r : Int) + 1 - ((r : Int) - 1)).toNat = 2 := by omega
    have x4 : ((q : Int) + 1 - ((q : Int) - 1)).toNat = 2 := by omega
    have y1 : decide (0 ≤ (r : Int) - 1 ∧ (r : Int) - 1 < (L : Int)) = true := decide_eq_true ⟨by omega, by omega⟩
    have y2 : decide (0 ≤ (q : Int) - 1 ∧ (q : Int) - 1 < (L' : Int)) = true := decide_eq_true ⟨by omega, by omega⟩
    have y3 : decide (0 ≤ e.ii (r - 1) 2 ∧ e.ii (r - 1) 2 < (ng : Int)) = true := decide_eq_true lp.2.2
    have y4 : decide (0 ≤ e'.ii (q - 1) 2 ∧ e'.ii (q - 1) 2 < (ng' : Int)) = true := decide_eq_true lq.2.2
    have y5 : decide (0 ≤ (r : Int) - 1 ∧ (r : Int) - 1 ≤ (r : Int) + 1 ∧ (r : Int) + 1 ≤ ((L + 1 : Nat) : Int)) = true := decide_eq_true ⟨by omega, by omega, by omega⟩
    have y6 : decide (0 ≤ (q : Int) - 1 ∧ (q : Int) - 1 ≤ (q : Int) + 1 ∧ (q : Int) + 1 ≤ ((L' + 1 : Nat) : Int)) = true := decide_eq_true ⟨by omega, by omega, by omega⟩
    have same : m77 (m53 2 (D.shift (r - 1)) (s : Int)).1 (m53 2 (D.shift (r - 1)) (s : Int)).2 (m53 2 (D'.shift (q - 1)) (s : Int)).1 (m53 2 (D'.shift (q - 1)) (s : Int)).2 = decide (Ln e (r - 1) (s : Int) * e'.ii (q - 1) 0 = Ln e' (q - 1) (s : Int) * e.ii (r - 1) 0) := by
      have p1 := mulb u3.1 u3.2 (show 0 ≤ (m53 2 (D'.shift (q - 1)) (s : Int)).2 by omega) v2.2
      have p2 := mulb v3.1 v3.2 (show 0 ≤ (m53 2 (D.shift (r - 1)) (s : Int)).2 by omega) u2.2
      simp only [m77]
      rw [wr (n := (m53 2 (D.shift (r - 1)) (s : Int)).1 * (m53 2 (D'.shift (q - 1)) (s : Int)).2) (by omega) (by omega), wr (n := (m53 2 (D'.shift (q - 1)) (s : Int)).1 * (m53 2 (D.shift (r - 1)) (s : Int)).2) (by omega) (by omega)]
      exact decide_eq_decide.2 (alike_frac (by omega) (by omega) (by omega) (by omega) u4 v4)
    obtain ⟨f1, f2, f3⟩ : ∃ r', (∀ t9 t10, True) ∧ (l42_0 (L + 1) D (L' + 1) D' a b ng g L e a' b' ng' g' L' e' x f (r : Int) (q : Int) ((s + 1 : Nat) : Int) = some r' ∧ Found L g e L' g' e' M (s + 1) r') := by
      obtain ⟨r', k1', k2'⟩ := differ_run P Q hD hD' x M hM k (s + 1) r q f (by omega) (by omega) (by omega) (by omega) (fun _ => ⟨.inl (by omega), .inl (by omega), fun p h1 h2 => by
          by_cases h : i ≤ p
          · have := r4 p h h1; omega
          · have := hI2 p (by omega) h2; omega, fun p h1 h2 => by
          by_cases h : j ≤ p
          · have := q4 p h h1; omega
          · have := hJ2 p (by omega) h2; omega⟩) (fun h => by omega)
      exact ⟨r', fun (_ _ : Nat) => trivial, k1', k2'⟩
    have gas0 : g.ii (e.ii (r - 1) 2).toNat 0 = gx g e (r - 1) := rfl
    have gas1 : g.ii (e.ii (r - 1) 2).toNat 1 = gy g e (r - 1) := rfl
    have gas2 : g'.ii (e'.ii (q - 1) 2).toNat 0 = gx g' e' (q - 1) := rfl
    have gas3 : g'.ii (e'.ii (q - 1) 2).toNat 1 = gy g' e' (q - 1) := rfl
    by_cases hA : Alike g e (r - 1) g' e' (q - 1) (s : Int)
    · obtain ⟨hA1, hA2, hA3⟩ := hA
      refine ⟨f1, ?_, f3.2.back ⟨by omega, by omega, fun ⟨r', q', h1, h2, h3⟩ => ?_⟩⟩
      · simp only [l42_0, e1, e2, k1, k2, z, decide_eq_false c1, decide_eq_false c2, z0, o2, o4, Option.isSome_some, Option.getD_some, w1, w2, w3, w4, x1, x2, x3, x4, y1, y2, y3, y4, y5, y6, gas0, gas1, gas2, gas3, hA1, hA2, u1, v1, same, hA3, ws, decide_true, cond_true, cond_false, Bool.cond_self]
        exact f3.1
      · obtain rfl := h1.one P onP
        obtain rfl := h2.one Q onQ
        exact h3 ⟨hA1, hA2, hA3⟩
    · refine ⟨(true, ((s : Int), 0), default), ?_, .inr ⟨s, Nat.le_refl _, by omega, rfl, fun s' h1 h2 => by omega, .inr (.inr ⟨_, _, onP, onQ, hA⟩)⟩⟩
      by_cases b1 : gx g e (r - 1) = gx g' e' (q - 1)
      · by_cases b2 : gy g e (r - 1) = gy g' e' (q - 1)
        · have b3 : ¬ Ln e (r - 1) (s : Int) * e'.ii (q - 1) 0 = Ln e' (q - 1) (s : Int) * e.ii (r - 1) 0 := fun h => hA ⟨b1, b2, h⟩
          simp only [l42_0, e1, e2, k1, k2, z, decide_eq_false c1, decide_eq_false c2, z0, o2, o4, Option.isSome_some, Option.getD_some, w1, w2, w3, w4, x1, x2, x3, x4, y1, y2, y3, y4, y5, y6, gas0, gas1, gas2, gas3, b1, b2, u1, v1, same, decide_eq_false b3, decide_true, cond_true, cond_false, Bool.cond_self]
        · simp only [l42_0, e1, e2, k1, k2, z, decide_eq_false c1, decide_eq_false c2, z0, o2, o4, Option.isSome_some, Option.getD_some, w1, w2, w3, w4, x1, x2, x3, x4, y1, y2, y3, y4, y5, y6, gas0, gas1, gas2, gas3, b1, decide_eq_false b2, u1, v1, decide_true, cond_true, cond_false, Bool.cond_self]
      · simp only [l42_0, e1, e2, k1, k2, z, decide_eq_false c1, decide_eq_false c2, z0, o2, o4, Option.isSome_some, Option.getD_some, w1, w2, w3, w4, x1, x2, x3, x4, y1, y2, y3, y4, y5, y6, gas0, gas1, gas2, gas3, decide_eq_false b1, u1, v1, decide_true, cond_true, cond_false, Bool.cond_self]
theorem differ_ok (P : Pln a b ng g L e) (Q : Pln a' b' ng' g' L' e') : n42 a b ng g L e a' b' ng' g' L' e' = true ∧ ∃ M : Nat, (M : Int) = imax (sm e L) (sm e' L') ∧ ∃ r, Found L g e L' g' e' M 0 r ∧ m42 a b ng g L e a' b' ng' g' L' e' = cond r.1 (r.2.1.1, r.2.1.2) (0, 12) := by
  have ha := P.small; have ha' := Q.small
  have hL := P.legs; have hL' := Q.legs; have hg := P.few; have hg' := Q.few
  obtain ⟨t1, D, t2, t3⟩ := track_ok P
  obtain ⟨s1, D', s2, s3⟩ := track_ok Q
  obtain ⟨p1, p2⟩ := two_plans a b ng g L e a' b' ng' g' L' e' (by omega) (by omega) (by omega) (by omega) (by omega) (by omega)
  have q1 := (plan_ok a b ng g L e (by omega) (by omega) (by omega)).2.2.2.2 P
  have q2 := (plan_ok a' b' ng' g' L' e' (by omega) (by omega) (by omega)).2.2.2.2 Q
  rw [q1, q2] at p2
  have p2 : _ = (0 : Int) := p2
  have nP := P.nonneg (Nat.le_refl L); have nQ := Q.nonneg (Nat.le_refl L')
  obtain ⟨e1, e2⟩ := end_ok P t3
  obtain ⟨k1, k2⟩ := end_ok Q s3
  refine ⟨?_, (imax (sm e L) (sm e' L')).toNat, ?_⟩
  all_goals
    have hM : (((imax (sm e L) (sm e' L')).toNat : Nat) : Int) = imax (sm e L) (sm e' L') := Int.toNat_of_nonneg (by unfold imax; split <;> omega)
    have hMl : (imax (sm e L) (sm e' L')).toNat ≤ (sm e L).toNat + (sm e' L').toNat := by unfold imax; split <;> omega
    obtain ⟨r, r1, r2⟩ := differ_run P Q t3 s3 (datS [SV.str a, SV.int IntKind.i64 b, SV.ro [Kd.int IntKind.i64, Kd.int IntKind.i64] ng g, SV.ro [Kd.int IntKind.i64, Kd.int IntKind.i64, Kd.int IntKind.i64] L e, SV.str a', SV.int IntKind.i64 b', SV.ro [Kd.int IntKind.i64, Kd.int IntKind.i64] ng' g', SV.ro [Kd.int IntKind.i64, Kd.int IntKind.i64, Kd.int IntKind.i64] L' e'] 4) _ hM ((imax (sm e L) (sm e' L')).toNat + 1) 0 1 1 ((m62 (L + 1) D).toNat + (m62 (L' + 1) D').toNat + 8) (by omega) (by rw [e2, k2]; omega) (by omega) (by omega) (fun h => by omega) (fun _ => ⟨rfl, rfl⟩)
    have h : o42_0 (L + 1) D (L' + 1) D' a b ng g L e a' b' ng' g' L' e' (datS [SV.str a, SV.int IntKind.i64 b, SV.ro [Kd.int IntKind.i64, Kd.int IntKind.i64] ng g, SV.ro [Kd.int IntKind.i64, Kd.int IntKind.i64, Kd.int IntKind.i64] L e, SV.str a', SV.int IntKind.i64 b', SV.ro [Kd.int IntKind.i64, Kd.int IntKind.i64] ng' g', SV.ro [Kd.int IntKind.i64, Kd.int IntKind.i64, Kd.int IntKind.i64] L' e'] 4) 1 1 0 = some r := r1
  · simp only [n42, p1, p2, t1, t2, s1, s2, h, Option.isSome_some, decide_true, cond_true, cond_false, Bool.and_self]
  · refine ⟨hM, r, r2, ?_⟩
    simp only [m42, p2, t2, s2, h, Option.getD_some, decide_true, cond_true, cond_false]
end
end Go.Proofs.YtchhhoamnagbfaaDoor

/-
  The plain law of 'MixFactors': the law's model is true, and its need. Conditions: none.
-/
import Derived.Test.YtmjcegbnbnbceaaHPPartials
import Derived.Test.YtmjcegbnbnbceaaHPLoop
namespace Go.Proofs.Ytmjcegbnbnbceaa
open Go Go.Sy
set_option linter.unusedVariables false
set_option maxRecDepth 100000
/-- The error of a row. -/
noncomputable def rowE (d : Dat) (i : Nat) : Option (Bool × Int × Unit) :=
  cond (bif (bif (bif m18 (d.ii i 0) 0 400000 then false else true) then true else (bif m18 (d.ii i (0 + 1)) 500 2000 then false else true)) then true else (bif m18 (d.ii i (0 + 1 + 1)) 500 2000 then false else true)) (some (true, 2, default))
    (cond (bif decide (d.ii i (0 + 1 + 1) < d.ii i (0 + 1)) then true else (bif decide (0 < i) then decide (d.ii i 0 ≤ d.ii (i - 1) 0) else false)) (some (true, 9, default)) none)
attribute [local simp] brk
theorem l50_step (n : Nat) (hn : n ≤ 9223372036854775807) (d : Dat) (f i : Nat) (hi : i < n) : l50_0 n d (f + 1) (i : Int) = brk (rowE d i) (l50_0 n d f (IntKind.i64.wrap ((i : Int) + 1))) := by
  have hw : IntKind.i64.wrap ((i : Int) - 1) = (i : Int) - 1 := wr (by omega) (by omega)
  have t1 : ((i : Int) - 1).toNat = i - 1 := by omega
  simp only [l50_0, cdl hi, cdd hi, cond_true, Int.toNat_natCast, rowE, hw, t1]
  by_cases h0 : 0 < i
  · have g1 : (0 : Int) < (i : Int) := by omega
    have g2 : (0 : Int) ≤ (i : Int) - 1 ∧ (i : Int) - 1 < (n : Int) := by omega
    simp only [h0, g1, g2, decide_true, true_and]
    cases (bif bif bif m18 (d.ii i 0) 0 400000 then false else true then true else bif m18 (d.ii i (0 + 1)) 500 2000 then false else true then true else bif m18 (d.ii i (0 + 1 + 1)) 500 2000 then false else true) <;> cases decide (d.ii i (0 + 1 + 1) < d.ii i (0 + 1)) <;> cases decide (d.ii i 0 ≤ d.ii (i - 1) 0) <;> simp
  · have g1 : ¬ (0 : Int) < (i : Int) := by omega
    simp only [h0, g1, decide_false]
    cases (bif bif bif m18 (d.ii i 0) 0 400000 then false else true then true else bif m18 (d.ii i (0 + 1)) 500 2000 then false else true then true else bif m18 (d.ii i (0 + 1 + 1)) 500 2000 then false else true) <;> cases decide (d.ii i (0 + 1 + 1) < d.ii i (0 + 1)) <;> simp
theorem l51_step (n : Nat) (hn : n ≤ 9223372036854775807) (d : Dat) (f i : Nat) (hi : i < n) : l51_1 n d d (n : Int) (f + 1) (i : Int) = brk (rowE d i) (l51_1 n d d (n : Int) f (IntKind.i64.wrap ((i : Int) + 1))) := by
  have hw : IntKind.i64.wrap ((i : Int) - 1) = (i : Int) - 1 := wr (by omega) (by omega)
  have t1 : ((i : Int) - 1).toNat = i - 1 := by omega
  have e73 : ∀ x y z, m73 x y z = m18 x y z := fun x y z => rfl
  simp only [l51_1, cdl hi, cdd hi, cond_true, Int.toNat_natCast, rowE, hw, t1, e73]
  by_cases h0 : 0 < i
  · have g1 : (0 : Int) < (i : Int) := by omega
    have g2 : (0 : Int) ≤ (i : Int) - 1 ∧ (i : Int) - 1 < (n : Int) := by omega
    simp only [h0, g1, g2, decide_true, true_and]
    cases (bif bif bif m18 (d.ii i 0) 0 400000 then false else true then true else bif m18 (d.ii i (0 + 1)) 500 2000 then false else true then true else bif m18 (d.ii i (0 + 1 + 1)) 500 2000 then false else true) <;> cases decide (d.ii i (0 + 1 + 1) < d.ii i (0 + 1)) <;> cases decide (d.ii i 0 ≤ d.ii (i - 1) 0) <;> simp
  · have g1 : ¬ (0 : Int) < (i : Int) := by omega
    simp only [h0, g1, decide_false]
    cases (bif bif bif m18 (d.ii i 0) 0 400000 then false else true then true else bif m18 (d.ii i (0 + 1)) 500 2000 then false else true then true else bif m18 (d.ii i (0 + 1 + 1)) 500 2000 then false else true) <;> cases decide (d.ii i (0 + 1 + 1) < d.ii i (0 + 1)) <;> simp
theorem l50_all (n : Nat) (hn : n ≤ 9223372036854775807) (d : Dat) : o50_0 n d 0 = some (first (rowE d) (false, default, ()) n 0) :=
  loop_first (l := l50_0 n d) hn (l50_step n hn d) (fun f => by simp only [l50_0, cdn]; rfl) n 0 _ (by omega) (by omega)
theorem l51_all (n : Nat) (hn : n ≤ 9223372036854775807) (d : Dat) : o51_1 n d d (n : Int) 0 = some (first (rowE d) (false, default, ()) n 0) :=
  loop_first (l := l51_1 n d d (n : Int)) hn (l51_step n hn d) (fun f => by simp only [l51_1, cdn]; rfl) n 0 _ (by omega) (by omega)
theorem checkF (n : Nat) (hn : n ≤ 9223372036854775807) (d : Dat) : n50 n d = true ∧ n51 n d = true ∧ m51 n d = m50 n d := by
  simp only [n50, n51, m50, m51, l50_all n hn d, l51_all n hn d]
  refine ⟨?_, ?_, trivial⟩ <;> cases decide ((n : Int) = 0) <;> cases decide (20 < (n : Int)) <;> rfl
/-- A right table. -/
structure RightT (n : Nat) (d : Dat) : Prop where
  pos : 0 < n
  few : n ≤ 20
  P : ∀ i, i < n → 0 ≤ d.ii i 0 ∧ d.ii i 0 ≤ 400000
  L : ∀ i, i < n → 500 ≤ d.ii i 1 ∧ d.ii i 1 ≤ 2000
  H : ∀ i, i < n → 500 ≤ d.ii i 2 ∧ d.ii i 2 ≤ 2000
  up : ∀ i, i + 1 < n → d.ii i 0 < d.ii (i + 1) 0
theorem m18_iff {x a b : Int} : m18 x a b = true ↔ a ≤ x ∧ x ≤ b := by
  simp only [m18]
  by_cases h1 : a ≤ x <;> by_cases h2 : x ≤ b <;> simp [h1, h2]
theorem m18_f {x a b : Int} (h : ¬ (a ≤ x ∧ x ≤ b)) : m18 x a b = false := by
  cases hh : m18 x a b with
  | false => rfl
  | true => exact absurd (m18_iff.1 hh) h
theorem right_of {n : Nat} {d : Dat} (hn : n ≤ 9223372036854775807) (h : m50 n d = 0) : RightT n d := by
  simp only [m50, l50_all n hn d, Option.getD_some] at h
  by_cases h0 : (n : Int) = 0
  · simp [h0] at h
  · by_cases h1 : 20 < (n : Int)
    · simp only [h0, h1, decide_false, cond_false, decide_true, cond_true] at h
      omega
    · simp only [h0, h1, decide_false, cond_false] at h
      rcases first_cases (g := rowE d) (e := (false, default, ())) n 0 with ⟨j, b, _, _, hg, _, hb⟩ | ⟨hall, _⟩
      · exfalso
        rw [hb] at h
        unfold rowE at hg
        generalize (bif bif bif m18 (d.ii j 0) 0 400000 then false else true then true else bif m18 (d.ii j (0 + 1)) 500 2000 then false else true then true else bif m18 (d.ii j (0 + 1 + 1)) 500 2000 then false else true) = c1 at hg
        generalize (bif decide (d.ii j (0 + 1 + 1) < d.ii j (0 + 1)) then true else bif decide (0 < j) then decide (d.ii j 0 ≤ d.ii (j - 1) 0) else false) = c2 at hg
        cases c1 <;> cases c2 <;> simp at hg <;> subst hg <;> simp at h
      · have row : ∀ i, i < n → (m18 (d.ii i 0) 0 400000 = true ∧ m18 (d.ii i 1) 500 2000 = true ∧ m18 (d.ii i 2) 500 2000 = true) ∧ (0 < i → d.ii (i - 1) 0 < d.ii i 0) := by
          intro i hi
          have := hall i (by omega) (by omega)
          unfold rowE at this
          simp only [Nat.zero_add, Nat.reduceAdd] at this
          generalize m18 (d.ii i 0) 0 400000 = c1 at this ⊢
          generalize m18 (d.ii i 1) 500 2000 = c2 at this ⊢
          generalize m18 (d.ii i 2) 500 2000 = c3 at this ⊢
          by_cases k1 : d.ii i 2 < d.ii i 1
          · cases c1 <;> cases c2 <;> cases c3 <;> simp [k1] at this
          · refine ⟨?_, fun hp => ?_⟩
            · cases c1 <;> cases c2 <;> cases c3 <;> simp [k1] at this ⊢
            · by_cases k2 : d.ii i 0 ≤ d.ii (i - 1) 0
              · cases c1 <;> cases c2 <;> cases c3 <;> simp [k1, k2, hp] at this
              · omega
        exact ⟨by omega, by omega, fun i hi => m18_iff.1 (row i hi).1.1, fun i hi => m18_iff.1 (row i hi).1.2.1, fun i hi => m18_iff.1 (row i hi).1.2.2, fun i hi => (row (i + 1) hi).2 (by omega)⟩
theorem RightT.mono {n : Nat} {d : Dat} (T : RightT n d) {i : Nat} : ∀ {k : Nat}, i + k < n → d.ii i 0 + k ≤ d.ii (i + k) 0
  | 0, _ => by simp
  | k + 1, h => by
    have := T.mono (i := i) (k := k) (by omega)
    have := T.up (i + k) (by omega)
    have e : i + (k + 1) = i + k + 1 := by omega
    rw [e]
    omega
theorem RightT.lt {n : Nat} {d : Dat} (T : RightT n d) {i j : Nat} (h : i < j) (hj : j < n) : d.ii i 0 < d.ii j 0 := by
  obtain ⟨k, rfl⟩ : ∃ k, j = i + k := ⟨j - i, by omega⟩
  have := T.mono (i := i) (k := k) hj
  omega
/-- The interpolation. -/
def mixN (a b at' wide : Int) : Int := a * (wide - at') + b * at'
theorem mixN_b {a b at' wide : Int} (ha : 500 ≤ a ∧ a ≤ 2000) (hb : 500 ≤ b ∧ b ≤ 2000) (h0 : 0 < at') (h1 : at' < wide) (hw : wide ≤ 400000) :
    (0 ≤ a * (wide - at') ∧ a * (wide - at') ≤ 800000000) ∧ (0 ≤ b * at' ∧ b * at' ≤ 800000000) ∧ 500 * wide ≤ mixN a b at' wide ∧ mixN a b at' wide ≤ 2000 * wide := by
  have p := mulb (show 0 ≤ a by omega) ha.2 (show 0 ≤ wide - at' by omega) (show wide - at' ≤ 400000 by omega)
  have q := mulb (show 0 ≤ b by omega) hb.2 (show 0 ≤ at' by omega) (show at' ≤ 400000 by omega)
  have r1 : 500 * (wide - at') ≤ a * (wide - at') := Int.mul_le_mul_of_nonneg_right ha.1 (by omega)
  have r2 : 500 * at' ≤ b * at' := Int.mul_le_mul_of_nonneg_right hb.1 (by omega)
  have r3 : a * (wide - at') ≤ 2000 * (wide - at') := Int.mul_le_mul_of_nonneg_right ha.2 (by omega)
  have r4 : b * at' ≤ 2000 * at' := Int.mul_le_mul_of_nonneg_right hb.2 (by omega)
  unfold mixN
  refine ⟨by omega, by omega, by omega, by omega⟩
theorem mix_w {a b at' wide : Int} (ha : 500 ≤ a ∧ a ≤ 2000) (hb : 500 ≤ b ∧ b ≤ 2000) (h0 : 0 < at') (h1 : at' < wide) (hw : wide ≤ 400000) :
    IntKind.i64.wrap (IntKind.i64.wrap (a * IntKind.i64.wrap (wide - at')) + IntKind.i64.wrap (b * at')) = mixN a b at' wide := by
  obtain ⟨p, q, _, _⟩ := mixN_b ha hb h0 h1 hw
  rw [wr (n := wide - at') (by omega) (by omega), wr (n := a * (wide - at')) (by omega) (by omega), wr (n := b * at') (by omega) (by omega), wr (by omega) (by omega)]
  rfl
theorem quot_b {N wide : Int} (h0 : 0 < wide) (hl : 500 * wide ≤ N) (hu : N ≤ 2000 * wide) : (500 ≤ N / wide ∧ N / wide ≤ 2000) ∧ (500 ≤ -((-N) / wide) ∧ -((-N) / wide) ≤ 2000) := by
  have p := fl_props (X := N) h0 (by omega)
  have c1 : 500 ≤ N / wide := by
    apply Decidable.byContradiction; intro h
    have : wide * (N / wide) ≤ wide * 499 := Int.mul_le_mul_of_nonneg_left (by omega) (by omega)
    omega
  have c2 : N / wide ≤ 2000 := by
    apply Decidable.byContradiction; intro h
    have : wide * 2001 ≤ wide * (N / wide) := Int.mul_le_mul_of_nonneg_left (by omega) (by omega)
    omega
  refine ⟨⟨c1, c2⟩, by omega, ?_⟩
  apply Decidable.byContradiction; intro h
  have e1 := Int.mul_ediv_add_emod (-N) wide
  have b1 := Int.emod_nonneg (-N) (Int.ne_of_gt h0)
  have b2 := Int.emod_lt_of_pos (-N) h0
  have : wide * ((-N) / wide) ≤ wide * (-2001) := Int.mul_le_mul_of_nonneg_left (by omega) (by omega)
  omega
/-- What the reference's search gives at a row. -/
noncomputable def refF (d : Dat) (p : Int) (i : Nat) : Option (Bool × (Bool × Int × Int) × Unit) :=
  cond (decide (d.ii i 0 = p)) (some (true, (true, d.ii i 1, d.ii i 2), default))
    (cond (decide (0 < i) && (decide (d.ii (i - 1) 0 < p) && decide (p < d.ii i 0)))
      (some (true, (true, mixN (d.ii (i - 1) 1) (d.ii i 1) (p - d.ii (i - 1) 0) (d.ii i 0 - d.ii (i - 1) 0) / (d.ii i 0 - d.ii (i - 1) 0), -((-(mixN (d.ii (i - 1) 2) (d.ii i 2) (p - d.ii (i - 1) 0) (d.ii i 0 - d.ii (i - 1) 0))) / (d.ii i 0 - d.ii (i - 1) 0))), default)) none)
theorem l52_step {n : Nat} {d : Dat} (T : RightT n d) (p : Int) (hp : -9223372036854775808 ≤ p ∧ p ≤ 9223372036854775807) (f i : Nat) (hi : i < n) :
    l52_0 n d p 0 0 (f + 1) (i : Int) = brk (refF d p i) (l52_0 n d p 0 0 f (IntKind.i64.wrap ((i : Int) + 1))) := by
  have few := T.few
  have hw : IntKind.i64.wrap ((i : Int) - 1) = (i : Int) - 1 := wr (by omega) (by omega)
  have t1 : ((i : Int) - 1).toNat = i - 1 := by omega
  simp only [l52_0, cdl hi, cdd hi, cond_true, Int.toNat_natCast, refF, hw, t1, Nat.zero_add, Nat.reduceAdd]
  by_cases h1 : d.ii i 0 = p
  · simp [h1]
  · simp only [h1, decide_false, cond_false]
    by_cases h0 : 0 < i
    · have g1 : (0 : Int) < (i : Int) := by omega
      have g2 : (0 : Int) ≤ (i : Int) - 1 ∧ (i : Int) - 1 < (n : Int) := by omega
      simp only [h0, g1, g2, decide_true, true_and]
      by_cases h2 : d.ii (i - 1) 0 < p
      · by_cases h3 : p < d.ii i 0
        · have pi := T.P i hi
          have pj := T.P (i - 1) (by omega)
          have w1 : IntKind.i64.wrap (d.ii i 0 - d.ii (i - 1) 0) = d.ii i 0 - d.ii (i - 1) 0 := wr (by omega) (by omega)
          have w2 : IntKind.i64.wrap (p - d.ii (i - 1) 0) = p - d.ii (i - 1) 0 := wr (by omega) (by omega)
          have m1 := mix_w (T.L (i - 1) (by omega)) (T.L i hi) (at' := p - d.ii (i - 1) 0) (wide := d.ii i 0 - d.ii (i - 1) 0) (by omega) (by omega) (by omega)
          have m2 := mix_w (T.H (i - 1) (by omega)) (T.H i hi) (at' := p - d.ii (i - 1) 0) (wide := d.ii i 0 - d.ii (i - 1) 0) (by omega) (by omega) (by omega)
          have b1 := mixN_b (T.L (i - 1) (by omega)) (T.L i hi) (at' := p - d.ii (i - 1) 0) (wide := d.ii i 0 - d.ii (i - 1) 0) (by omega) (by omega) (by omega)
          have b2 := mixN_b (T.H (i - 1) (by omega)) (T.H i hi) (at' := p - d.ii (i - 1) 0) (wide := d.ii i 0 - d.ii (i - 1) 0) (by omega) (by omega) (by omega)
          have q1 := m88_eq (x := mixN (d.ii (i - 1) 1) (d.ii i 1) (p - d.ii (i - 1) 0) (d.ii i 0 - d.ii (i - 1) 0)) (y := d.ii i 0 - d.ii (i - 1) 0) (by omega) (by omega) (by omega)
          have q2 := m88_eq (x := mixN (d.ii (i - 1) 2) (d.ii i 2) (p - d.ii (i - 1) 0) (d.ii i 0 - d.ii (i - 1) 0)) (y := d.ii i 0 - d.ii (i - 1) 0) (by omega) (by omega) (by omega)
          simp only [m88, n88, Prod.mk.injEq, Bool.and_eq_true] at q1 q2
          simp only [w1, w2, m1, m2, h2, h3, q1.1.1, q2.1.2, q1.2.1, q2.2.2.1, decide_true, cond_true, Bool.and_self, brk]
          rfl
        · simp [h2, h3]
      · simp [h2]
    · have g1 : ¬ (0 : Int) < (i : Int) := by omega
      simp [h0, g1]
theorem l52_all {n : Nat} {d : Dat} (T : RightT n d) (p : Int) (hp : -9223372036854775808 ≤ p ∧ p ≤ 9223372036854775807) : o52_0 n d p 0 0 0 = some (first (refF d p) (false, default, ()) n 0) := by
  have few := T.few
  exact loop_first (l := l52_0 n d p 0 0) (by omega) (l52_step T p hp) (fun f => by simp only [l52_0, cdn]; rfl) n 0 _ (by omega) (by omega)
theorem l127_all (n : Nat) (hn : n ≤ 9223372036854775807) (d : Dat) (p : Int) : o127c128_0 n d (datC [SV.int .i64 p]) (n : Int) 0 = some (first (fun i => cond (decide (p ≤ d.ii i 0)) (some (true, (i : Int), default)) none) (false, default, ()) n 0) :=
  loop_first (l := l127c128_0 n d (datC [SV.int .i64 p]) (n : Int)) hn (fun f i hi => by
    have e : m128 (d.ii i 0) (d.ii i (0 + 1)) (d.ii i (0 + 1 + 1)) (datC [SV.int .i64 p]) = decide (p ≤ d.ii i 0) := rfl
    simp only [l127c128_0, cdl hi, cdd hi, cond_true, Int.toNat_natCast, e]
    cases decide (p ≤ d.ii i 0) <;> rfl) (fun f => by simp only [l127c128_0, cdn]; rfl) n 0 _ (by omega) (by omega)
theorem n92_eq (n : Nat) (d : Dat) (p : Int) (K : Int) (hK : m127c128 n d (datC [SV.int .i64 p]) = K) : n92 n d p = (decide ((0 : Int) ≤ (0 : Int) ∧ (0 : Int) < (n : Int)) && (decide (0 ≤ IntKind.i64.wrap ((n : Int) - 1) ∧ IntKind.i64.wrap ((n : Int) - 1) < (n : Int)) && (cond (bif m73 p (d.ii 0 0) (d.ii (IntKind.i64.wrap ((n : Int) - 1)).toNat 0) then false else true) true (n127c128 n d (datC [SV.int .i64 p]) && (decide (0 ≤ K ∧ K < (n : Int)) && (cond (decide (d.ii K.toNat 0 = p)) (decide (0 ≤ K ∧ K < (n : Int)) && true)
    (decide (0 ≤ IntKind.i64.wrap (K - 1) ∧ IntKind.i64.wrap (K - 1) < (n : Int)) && (decide (0 ≤ K ∧ K < (n : Int)) && (n129 (d.ii (IntKind.i64.wrap (K - 1)).toNat (0 + 1)) (d.ii K.toNat (0 + 1)) (IntKind.i64.wrap (p - d.ii (IntKind.i64.wrap (K - 1)).toNat 0)) (IntKind.i64.wrap (d.ii K.toNat 0 - d.ii (IntKind.i64.wrap (K - 1)).toNat 0)) &&
      (n129 (d.ii (IntKind.i64.wrap (K - 1)).toNat (0 + 1 + 1)) (d.ii K.toNat (0 + 1 + 1)) (IntKind.i64.wrap (p - d.ii (IntKind.i64.wrap (K - 1)).toNat 0)) (IntKind.i64.wrap (d.ii K.toNat 0 - d.ii (IntKind.i64.wrap (K - 1)).toNat 0)) && true)))))))))) := by
  subst hK
  kernel_rfl
theorem m92_eq (n : Nat) (d : Dat) (p : Int) (K : Int) (hK : m127c128 n d (datC [SV.int .i64 p]) = K) : m92 n d p = cond (bif m73 p (d.ii 0 0) (d.ii (IntKind.i64.wrap ((n : Int) - 1)).toNat 0) then false else true) (0, 0, 2) (cond (decide (d.ii K.toNat 0 = p)) (d.ii K.toNat (0 + 1), d.ii K.toNat (0 + 1 + 1), 0)
    ((m129 (d.ii (IntKind.i64.wrap (K - 1)).toNat (0 + 1)) (d.ii K.toNat (0 + 1)) (IntKind.i64.wrap (p - d.ii (IntKind.i64.wrap (K - 1)).toNat 0)) (IntKind.i64.wrap (d.ii K.toNat 0 - d.ii (IntKind.i64.wrap (K - 1)).toNat 0))).1,
     (m129 (d.ii (IntKind.i64.wrap (K - 1)).toNat (0 + 1 + 1)) (d.ii K.toNat (0 + 1 + 1)) (IntKind.i64.wrap (p - d.ii (IntKind.i64.wrap (K - 1)).toNat 0)) (IntKind.i64.wrap (d.ii K.toNat 0 - d.ii (IntKind.i64.wrap (K - 1)).toNat 0))).2, 0)) := by
  subst hK
  kernel_rfl
theorem m129_eq {a b at' wide : Int} (ha : 500 ≤ a ∧ a ≤ 2000) (hb : 500 ≤ b ∧ b ≤ 2000) (h0 : 0 < at') (h1 : at' < wide) (hw : wide ≤ 400000) :
    m129 a b at' wide = (mixN a b at' wide / wide, -((-(mixN a b at' wide)) / wide)) ∧ n129 a b at' wide = true := by
  have e := mix_w ha hb h0 h1 hw
  obtain ⟨_, _, b1, b2⟩ := mixN_b ha hb h0 h1 hw
  have q := m86_eq (x := mixN a b at' wide) (y := wide) (by omega) (by omega) (by omega) (by omega)
  constructor
  · simp only [m129, e, q.1]
  · simp only [n129, e, q.2]
    rfl
/-- The factor at a pressure: both alike. -/
theorem factor_both {n : Nat} {d : Dat} (T : RightT n d) (p : Int) (hp : -9223372036854775808 ≤ p ∧ p ≤ 9223372036854775807) : n92 n d p = true ∧ n52 n d p = true ∧
    (m92 n d p = (0, 0, 2) ∧ m52 n d p = (0, 0, false) ∨ ∃ lo hi : Int, (500 ≤ lo ∧ lo ≤ 2000) ∧ (500 ≤ hi ∧ hi ≤ 2000) ∧ 0 ≤ p ∧ p ≤ 400000 ∧ m92 n d p = (lo, hi, 0) ∧ m52 n d p = (lo, hi, true)) := by
  have few := T.few
  have pos := T.pos
  have e73 : ∀ x y z, m73 x y z = m18 x y z := fun x y z => rfl
  have hw : IntKind.i64.wrap ((n : Int) - 1) = ((n - 1 : Nat) : Int) := by rw [wr (by omega) (by omega)]; omega
  have c0 : decide ((0 : Int) ≤ (0 : Int) ∧ (0 : Int) < (n : Int)) = true := decide_eq_true ⟨by omega, by omega⟩
  have n52t : n52 n d p = true := by simp only [n52, l52_all T p hp]; rfl
  have nft : n127c128 n d (datC [SV.int .i64 p]) = true := by simp only [n127c128, l127_all n (by omega) d p]; rfl
  by_cases hin : d.ii 0 0 ≤ p ∧ p ≤ d.ii (n - 1) 0
  · have hm : m18 p (d.ii 0 0) (d.ii (n - 1) 0) = true := m18_iff.2 hin
    rcases first_cases (g := fun i => cond (decide (p ≤ d.ii i 0)) (some (true, (i : Int), ())) none) (e := (false, (default : Int), ())) n 0 with ⟨j, b, _, hj, hg, hbef, hb⟩ | ⟨hall, _⟩
    · have hj' : j < n := by omega
      have hpj : p ≤ d.ii j 0 := by
        by_cases h : p ≤ d.ii j 0
        · exact h
        · simp [h] at hg
      have hbj : b = (true, (j : Int), ()) := by simpa [hpj] using hg.symm
      have hlt : ∀ i, i < j → d.ii i 0 < p := fun i hi => by
        have := hbef i (by omega) hi
        by_cases h : p ≤ d.ii i 0
        · simp [h] at this
        · omega
      have hK : m127c128 n d (datC [SV.int .i64 p]) = (j : Int) := by
        simp only [m127c128, l127_all n (by omega) d p, Option.getD_some]
        have : first (fun i => cond (decide (p ≤ d.ii i 0)) (some (true, (i : Int), default)) none) (false, default, ()) n 0 = b := hb
        rw [this, hbj]
        rfl
      have cj : decide ((0 : Int) ≤ (j : Int) ∧ (j : Int) < (n : Int)) = true := cdd hj'
      have pj := T.P j hj'
      have p0 := T.P 0 pos
      by_cases heq : d.ii j 0 = p
      · -- a row of the table
        have hr : first (refF d p) (false, default, ()) n 0 = (true, (true, d.ii j 1, d.ii j 2), default) := first_some (j := j) (by omega) (by omega) (by simp [refF, heq]) fun i _ hi => by
          have h1 := hlt i hi
          have h2 : ¬ d.ii i 0 = p := by omega
          have h3 : ¬ p < d.ii i 0 := by omega
          simp [refF, h2, h3]
        refine ⟨?_, n52t, Or.inr ⟨d.ii j 1, d.ii j 2, T.L j hj', T.H j hj', by omega, by omega, ?_, ?_⟩⟩
        · rw [n92_eq n d p _ hK, nft, hw, e73]
          have cn : decide ((0 : Int) ≤ ((n - 1 : Nat) : Int) ∧ ((n - 1 : Nat) : Int) < (n : Int)) = true := cdd (by omega)
          simp only [Int.toNat_natCast, hm, cj, cn, c0, heq, decide_true, cond_true, Bool.and_true, Bool.true_and, cond_false]
        · rw [m92_eq n d p _ hK, hw, e73]
          simp only [Int.toNat_natCast, hm, heq, decide_true, cond_true, cond_false, Nat.zero_add, Nat.reduceAdd]
        · simp only [m52, l52_all T p hp, Option.getD_some, hr]
          rfl
      · -- between two rows
        have j0 : 0 < j := by
          rcases Nat.eq_zero_or_pos j with h | h
          · subst h; omega
          · exact h
        have hl := hlt (j - 1) (by omega)
        have pi := T.P (j - 1) (by omega)
        have wj : IntKind.i64.wrap ((j : Int) - 1) = ((j - 1 : Nat) : Int) := by rw [wr (by omega) (by omega)]; omega
        have w1 : IntKind.i64.wrap (d.ii j 0 - d.ii (j - 1) 0) = d.ii j 0 - d.ii (j - 1) 0 := wr (by omega) (by omega)
        have w2 : IntKind.i64.wrap (p - d.ii (j - 1) 0) = p - d.ii (j - 1) 0 := wr (by omega) (by omega)
        have M1 := m129_eq (T.L (j - 1) (by omega)) (T.L j hj') (at' := p - d.ii (j - 1) 0) (wide := d.ii j 0 - d.ii (j - 1) 0) (by omega) (by omega) (by omega)
        have M2 := m129_eq (T.H (j - 1) (by omega)) (T.H j hj') (at' := p - d.ii (j - 1) 0) (wide := d.ii j 0 - d.ii (j - 1) 0) (by omega) (by omega) (by omega)
        have B1 := mixN_b (T.L (j - 1) (by omega)) (T.L j hj') (at' := p - d.ii (j - 1) 0) (wide := d.ii j 0 - d.ii (j - 1) 0) (by omega) (by omega) (by omega)
        have B2 := mixN_b (T.H (j - 1) (by omega)) (T.H j hj') (at' := p - d.ii (j - 1) 0) (wide := d.ii j 0 - d.ii (j - 1) 0) (by omega) (by omega) (by omega)
        have Q1 := quot_b (show 0 < d.ii j 0 - d.ii (j - 1) 0 by omega) B1.2.2.1 B1.2.2.2
        have Q2 := quot_b (show 0 < d.ii j 0 - d.ii (j - 1) 0 by omega) B2.2.2.1 B2.2.2.2
        have hlt3 : p < d.ii j 0 := by omega
        have hr := first_some (g := refF d p) (e := (false, default, ())) (k := n) (i := 0) (j := j) (b := (true, (true, mixN (d.ii (j - 1) 1) (d.ii j 1) (p - d.ii (j - 1) 0) (d.ii j 0 - d.ii (j - 1) 0) / (d.ii j 0 - d.ii (j - 1) 0), -((-(mixN (d.ii (j - 1) 2) (d.ii j 2) (p - d.ii (j - 1) 0) (d.ii j 0 - d.ii (j - 1) 0))) / (d.ii j 0 - d.ii (j - 1) 0))), default)) (by omega) (by omega) (by simp [refF, heq, j0, hl, hlt3]) fun i _ hi => by
          have h1 := hlt i hi
          have h2 : ¬ d.ii i 0 = p := by omega
          have h3 : ¬ p < d.ii i 0 := by omega
          simp [refF, h2, h3]
        refine ⟨?_, n52t, Or.inr ⟨_, _, Q1.1, Q2.2, by omega, by omega, ?_, ?_⟩⟩
        · rw [n92_eq n d p _ hK, nft, hw, e73, wj]
          have cn : decide ((0 : Int) ≤ ((n - 1 : Nat) : Int) ∧ ((n - 1 : Nat) : Int) < (n : Int)) = true := cdd (by omega)
          have cj1 : decide ((0 : Int) ≤ ((j - 1 : Nat) : Int) ∧ ((j - 1 : Nat) : Int) < (n : Int)) = true := cdd (by omega)
          simp only [Int.toNat_natCast, hm, cj, cn, cj1, c0, heq, decide_false, cond_true, Bool.and_true, Bool.true_and, cond_false, w1, w2, Nat.zero_add, Nat.reduceAdd, M1.2, M2.2]
        · rw [m92_eq n d p _ hK, hw, e73, wj]
          simp only [Int.toNat_natCast, hm, heq, decide_false, cond_true, cond_false, Nat.zero_add, Nat.reduceAdd, w1, w2, M1.1, M2.1]
        · simp only [m52, l52_all T p hp, Option.getD_some, hr]
          rfl
    · exfalso
      have := hall (n - 1) (by omega) (by omega)
      simp [hin.2] at this
  · have hm : m18 p (d.ii 0 0) (d.ii (n - 1) 0) = false := m18_f hin
    have hr : first (refF d p) (false, default, ()) n 0 = (false, default, ()) := first_none fun i _ hi => by
      have hi' : i < n := by omega
      have h0 : d.ii 0 0 ≤ d.ii i 0 := by
        rcases Nat.eq_zero_or_pos i with h | h
        · subst h; omega
        · have := T.lt h hi'; omega
      have h1 : d.ii i 0 ≤ d.ii (n - 1) 0 := by
        by_cases h : i = n - 1
        · subst h; omega
        · have := T.lt (show i < n - 1 by omega) (by omega); omega
      have h2 : ¬ d.ii i 0 = p := by omega
      have h3 : ¬ (0 < i ∧ d.ii (i - 1) 0 < p ∧ p < d.ii i 0) := by
        rintro ⟨a, b, c⟩
        have h4 : d.ii 0 0 ≤ d.ii (i - 1) 0 := by
          rcases Nat.eq_zero_or_pos (i - 1) with h | h
          · rw [h]; omega
          · have := T.lt h (show i - 1 < n by omega); omega
        omega
      have h5 : (decide (0 < i) && (decide (d.ii (i - 1) 0 < p) && decide (p < d.ii i 0))) = false := by
        by_cases a : 0 < i <;> by_cases b : d.ii (i - 1) 0 < p <;> by_cases c : p < d.ii i 0 <;> simp [a, b, c]
        exact h3 ⟨a, b, c⟩
      simp only [refF, h2, h5, decide_false, cond_false]
    refine ⟨?_, n52t, Or.inl ⟨?_, ?_⟩⟩
    · rw [n92_eq n d p _ rfl, hw, e73]
      have cn : decide ((0 : Int) ≤ ((n - 1 : Nat) : Int) ∧ ((n - 1 : Nat) : Int) < (n : Int)) = true := cdd (by omega)
      simp only [Int.toNat_natCast, hm, cn, c0, cond_true, Bool.and_true, Bool.true_and, cond_false]
    · rw [m92_eq n d p _ rfl, hw, e73]
      simp only [Int.toNat_natCast, hm, cond_true, cond_false]
    · simp only [m52, l52_all T p hp, Option.getD_some, hr]
      rfl
theorem wf64 {x : Int} (h : (Lit.int .i64 x).wf = true) : -9223372036854775808 ≤ x ∧ x ≤ 9223372036854775807 := by
  simp [Lit.wf, IntKind.min, IntKind.max, IntKind.bits, IntKind.signed] at h
  omega
theorem imin_le_l (a b : Int) : imin a b ≤ a := by unfold imin; split <;> omega
theorem imin_ge {a b c : Int} (h1 : c ≤ a) (h2 : c ≤ b) : c ≤ imin a b := by unfold imin; split <;> omega
theorem imax_ge_l (a b : Int) : a ≤ imax a b := by unfold imax; split <;> omega
theorem imax_le {a b c : Int} (h1 : a ≤ c) (h2 : b ≤ c) : imax a b ≤ c := by unfold imax; split <;> omega
/-- Amounts: both alike. -/
theorem amount_both {n : Nat} {d : Dat} (T : RightT n d) (h50 : m50 n d = 0) (p0 p1 V : Int) (hp0 : -9223372036854775808 ≤ p0 ∧ p0 ≤ 9223372036854775807) (hp1 : -9223372036854775808 ≤ p1 ∧ p1 ≤ 9223372036854775807) :
    n49 n d p0 p1 V = true ∧ n53 n d p0 p1 V = true ∧ m49 n d p0 p1 V = m53 n d p0 p1 V ∧
    ((m53 n d p0 p1 V).2.2 = 0 → ∃ lo hi rl rh : Int, m92 n d p0 = (lo, hi, 0) ∧ m53 n d p0 p1 V = (rl, rh, 0) ∧ IntKind.i64.wrap (rl * hi) ≤ IntKind.i64.wrap (p0 * V) ∧ IntKind.i64.wrap (p0 * V) ≤ IntKind.i64.wrap (rh * lo)) := by
  have few := T.few
  obtain ⟨c1, c2, c3⟩ := checkF n (by omega) d
  have h51 : m51 n d = 0 := by rw [c3, h50]
  have e73 : m73 V 1 1000000 = m18 V 1 1000000 := rfl
  obtain ⟨f1, f2, f3⟩ := factor_both T p0 hp0
  obtain ⟨g1, g2, g3⟩ := factor_both T p1 hp1
  by_cases hlt : p1 < p0
  · simp [n49, n53, m49, m53, c2, h51, hlt]
  · rcases f3 with ⟨a1, a2⟩ | ⟨lo, hi, l1, l2, l3, l4, a1, a2⟩
    · simp [n49, n53, m49, m53, c2, h51, hlt, f1, f2, g2, a1, a2]
    · rcases g3 with ⟨b1, b2⟩ | ⟨lo', hi', k1, k2, k3, k4, b1, b2⟩
      · simp [n49, n53, m49, m53, c2, h51, hlt, f1, f2, g1, g2, a1, a2, b1, b2]
      · by_cases hV : m18 V 1 1000000 = true
        · have v := m18_iff.1 hV
          have x := mulb l3 l4 (show 0 ≤ V by omega) v.2
          have y := mulb k3 k4 (show 0 ≤ V by omega) v.2
          have wx : IntKind.i64.wrap (p0 * V) = p0 * V := wr (by omega) (by omega)
          have wy : IntKind.i64.wrap (p1 * V) = p1 * V := wr (by omega) (by omega)
          generalize hX : p0 * V = X at *
          generalize hY : p1 * V = Y at *
          have r1 := m93_eq (x := X) (y := hi) (by omega) (by omega) (by omega)
          have r2 := m93_eq (x := Y) (y := hi') (by omega) (by omega) (by omega)
          have s1 := m88_eq (x := X) (y := lo) (by omega) (by omega) (by omega)
          have s2 := m88_eq (x := Y) (y := lo') (by omega) (by omega) (by omega)
          simp only [m88, n88, Prod.mk.injEq, Bool.and_eq_true] at s1 s2
          have u1 := m86_eq (x := X) (y := lo) (by omega) (by omega) (by omega) (by omega)
          have u2 := m86_eq (x := Y) (y := lo') (by omega) (by omega) (by omega) (by omega)
          have P1 := fl_props (X := X) (D := hi) (by omega) (by omega)
          have P2 := fl_props (X := Y) (D := hi') (by omega) (by omega)
          have P3 := fl_props (X := X) (D := lo) (by omega) (by omega)
          have P4 := fl_props (X := Y) (D := lo') (by omega) (by omega)
          have q1 := Int.ediv_le_self hi x.1
          have q2 := Int.ediv_le_self hi' y.1
          have q3 := Int.ediv_le_self lo x.1
          have q4 := Int.ediv_le_self lo' y.1
          have t1 : IntKind.i64.wrap (X.tdiv hi) = X / hi := by rw [Int.tdiv_eq_ediv_of_nonneg x.1]; exact wr (by omega) (by omega)
          have t2 : IntKind.i64.wrap (Y.tdiv hi') = Y / hi' := by rw [Int.tdiv_eq_ediv_of_nonneg y.1]; exact wr (by omega) (by omega)
          have n93h : n93 X hi = true := by have : ¬ hi = 0 := by omega
                                            simp [n93, this]
          have n93h' : n93 Y hi' = true := by have : ¬ hi' = 0 := by omega
                                              simp [n93, this]
          have z1 : decide (hi = 0) = false := decide_eq_false (by omega)
          have z2 : decide (hi' = 0) = false := decide_eq_false (by omega)
          have M49 : m49 n d p0 p1 V = (imin (X / hi) (Y / hi'), imax (-((-X) / lo)) (-((-Y) / lo')), 0) := by
            simp only [m49, h51, hlt, a1, b1, e73, hV, hX, hY, wx, wy, t1, t2, u1.1, u2.1]
            simp
          have M53 : m53 n d p0 p1 V = (imin (X / hi) (Y / hi'), imax (-((-X) / lo)) (-((-Y) / lo')), 0) := by
            simp only [m53, hlt, a2, b2, hV, hX, hY, wx, wy, r1, r2, s1.1.2, s2.1.2]
            simp
          refine ⟨?_, ?_, by rw [M49, M53], fun _ => ⟨lo, hi, _, _, a1, M53, ?_, ?_⟩⟩
          · simp only [n49, c2, h51, hlt, f1, g1, a1, b1, e73, hV, hX, hY, wx, wy, z1, z2, u1.2, u2.2]
            simp
          · simp only [n53, hlt, f2, g2, a2, b2, hV, hX, hY, wx, wy, n93h, n93h', s1.2.2.1, s2.2.2.1]
            simp
          · have i1 := imin_le_l (X / hi) (Y / hi')
            have i2 := imin_ge P1.1 P2.1
            generalize imin (X / hi) (Y / hi') = rl at *
            have m1 : rl * hi ≤ (X / hi) * hi := Int.mul_le_mul_of_nonneg_right i1 (by omega)
            have m2 : (X / hi) * hi = hi * (X / hi) := Int.mul_comm _ _
            have m3 : 0 ≤ rl * hi := Int.mul_nonneg i2 (by omega)
            rw [wr (n := rl * hi) (by omega) (by omega), wx]
            omega
          · have i1 := imax_ge_l (-((-X) / lo)) (-((-Y) / lo'))
            have i2 : imax (-((-X) / lo)) (-((-Y) / lo')) ≤ 400000000001 := imax_le (by omega) (by omega)
            have e1 := Int.mul_ediv_add_emod (-X) lo
            have b1 := Int.emod_nonneg (-X) (show lo ≠ 0 by omega)
            have b2 := Int.emod_lt_of_pos (-X) (show 0 < lo by omega)
            have e2 : (-((-X) / lo)) * lo = -(lo * ((-X) / lo)) := by rw [Int.neg_mul, Int.mul_comm]
            generalize (-X) / lo = g at *
            generalize imax (-g) (-((-Y) / lo')) = rh at *
            have m1 : (-g) * lo ≤ rh * lo := Int.mul_le_mul_of_nonneg_right i1 (by omega)
            have m2 : rh * lo ≤ 400000000001 * lo := Int.mul_le_mul_of_nonneg_right i2 (by omega)
            rw [wr (n := rh * lo) (by omega) (by omega), wx]
            omega
        · simp only [Bool.not_eq_true] at hV
          simp [n49, n53, m49, m53, c2, h51, hlt, f1, f2, g1, g2, a1, a2, b1, b2, e73, hV]
theorem lawFactors (n : Nat) (d : Dat) (p0 p1 V : Int) (hn : n ≤ 9223372036854775807) (hp0 : -9223372036854775808 ≤ p0 ∧ p0 ≤ 9223372036854775807) (hp1 : -9223372036854775808 ≤ p1 ∧ p1 ≤ 9223372036854775807) :
    n10 n d p0 p1 V = true ∧ m10 n d p0 p1 V = true := by
  have a48 : m48 n d = (n, d) := by simp only [m48, app_zero, Nat.zero_add]
  obtain ⟨c1, c2, c3⟩ := checkF n hn d
  by_cases h46 : m46 n d = true
  · have hn22 : n ≤ 22 := by
      simp only [m46] at h46
      by_cases k1 : (n : Int) ≤ 6
      · omega
      · by_cases k2 : 20 < (n : Int)
        · by_cases k3 : (n : Int) ≤ 22
          · omega
          · simp [k1, k3] at h46
        · simp [k1, k2] at h46
    have a48n : n48 n d = true := by
      have : n ≤ 1073741824 := by omega
      simp [n48, this]
    by_cases h50 : m50 n d = 0
    · have T := right_of hn h50
      obtain ⟨f1, f2, f3⟩ := factor_both T p0 hp0
      obtain ⟨g1, g2, g3, g4⟩ := amount_both T h50 p0 p1 V hp0 hp1
      have h51 : m51 n d = 0 := by rw [c3, h50]
      have n47' : n47 n d p0 = true := by simp [n47, c2, h51, f1]
      have m47' : m47 n d p0 = m92 n d p0 := by simp [m47, h51]
      by_cases hz : (m53 n d p0 p1 V).2.2 = 0
      · obtain ⟨lo, hi, rl, rh, q1, q2, q3, q4⟩ := g4 hz
        rcases f3 with ⟨a1, a2⟩ | ⟨lo', hi', l1, l2, l3, l4, a1, a2⟩
        · rw [a1] at q1; simp at q1
        · rw [a1] at q1
          obtain ⟨rfl, rfl⟩ : lo' = lo ∧ hi' = hi := by simpa using q1
          simp only [n10, m10, n15_true, m15_true, a48, a48n, h46, c1, c2, c3, h50, n47', m47', f2, g1, g2, g3, a1, a2, q2, q3, q4]
          simp
      · rcases f3 with ⟨a1, a2⟩ | ⟨lo', hi', l1, l2, l3, l4, a1, a2⟩
        · simp only [n10, m10, n15_true, m15_true, a48, a48n, h46, c1, c2, c3, h50, n47', m47', f2, g1, g2, g3, a1, a2]
          simp [hz]
        · simp only [n10, m10, n15_true, m15_true, a48, a48n, h46, c1, c2, c3, h50, n47', m47', f2, g1, g2, g3, a1, a2]
          simp [hz]
    · have h51 : ¬ m51 n d = 0 := by rw [c3]; exact h50
      simp only [n10, m10, n15_true, m15_true, a48, a48n, h46, c1, c2, c3, n47, m47, n49, m49]
      simp [h50]
  · simp only [Bool.not_eq_true] at h46
    simp only [n10, m10, n15_true, m15_true, h46]
    simp
#print axioms lawFactors
end Go.Proofs.Ytmjcegbnbnbceaa

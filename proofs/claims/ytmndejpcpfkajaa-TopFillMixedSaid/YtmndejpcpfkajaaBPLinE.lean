/-
 Several texts in one. Conditions: none.
-/
import Derived.Test.YtmndejpcpfkajaaBPLin
namespace Go.Proofs.Ytmndejpcpfkajaa
open Go Go.Sy Lin
set_option linter.unusedVariables false
set_option linter.unusedSectionVars false
set_option linter.unusedSimpArgs false
set_option maxRecDepth 100000
structure AskK (A : Dat) (n : Nat) (d : Dat) (w O1 O2 H1 H2 : Int) : Prop where
 s0 : A.sn 0 0 = n
 s1 : A.sub 0 0 = d
 s9 : A.ii 0 9 = w
 s10 : A.ii 0 10 = O1
 s11 : A.ii 0 11 = O2
 s12 : A.ii 0 12 = H1
 s13 : A.ii 0 13 = H2
 pos : 0 < n
 few : n ≤ 5
 gas : ∀ i, i < n → (0 ≤ d.ii i 1 ∧ d.ii i 1 ≤ 1000) ∧ (0 ≤ d.ii i 2 ∧ d.ii i 2 ≤ 1000) ∧ d.ii i 1 + d.ii i 2 ≤ 1000
 cents : ∀ i, i < n → 0 ≤ d.ii i 3 ∧ d.ii i 3 ≤ 1000
 amount : ∀ i, i < n → 0 ≤ d.ii i 4 ∧ d.ii i 4 ≤ 10000000
 W : 0 ≤ w ∧ w ≤ 10000000
 O : -10000000000 ≤ O1 ∧ O1 ≤ O2 ∧ O2 ≤ 10000000000
 H : -10000000000 ≤ H1 ∧ H1 ≤ H2 ∧ H2 ≤ 10000000000
theorem askK_of {n : Nat} {d : Dat} {b1 b2 b3 T ol oh hl hh : Int} (K : RightK n d b1 b2 b3 T ol oh hl hh) :
  AskK (askD n d b1 b2 b3 T ol oh hl hh) n d (T - (b1 + b2 + b3)) (ol * T - 1000 * b1) (oh * T - 1000 * b1) (hl * T - 1000 * b2) (hh * T - 1000 * b2) := by
 have e74 : m84 b1 b2 b3 = m29 b1 b2 b3 := rfl
 have hT1 := K.T1
 have hT2 := K.T2
 have ho0 := K.o0
 have hh0 := K.h0
 have hn0 := K.n0
 have hle := K.le
 have kO := K.O
 have kH := K.H
 have q1 := mulb kO.1 (show ol ≤ 1000 by omega) (show 0 ≤ T by omega) hT2
 have q2 := mulb (show 0 ≤ oh by omega) (show oh ≤ 1000 by omega) (show 0 ≤ T by omega) hT2
 have q6 := mulb kH.1 (show hl ≤ 1000 by omega) (show 0 ≤ T by omega) hT2
 have q7 := mulb (show 0 ≤ hh by omega) (show hh ≤ 1000 by omega) (show 0 ≤ T by omega) hT2
 have le1 : ol * T ≤ oh * T := Int.mul_le_mul_of_nonneg_right kO.2.1 (by omega)
 have le2 : hl * T ≤ hh * T := Int.mul_le_mul_of_nonneg_right kH.2.1 (by omega)
 have ww : ∀ {x b : Int}, 0 ≤ x * T ∧ x * T ≤ 1000 * 10000000 → 0 ≤ b ∧ b ≤ 10000000 → IntKind.i64.wrap (IntKind.i64.wrap (x * T) - IntKind.i64.wrap (1000 * b)) = x * T - 1000 * b := fun {x b} hx hb => by
  rw [wr (n := x * T) (by omega) (by omega), wr (n := 1000 * b) (by omega) (by omega), wr (by omega) (by omega)]
 refine ⟨rfl, rfl, ?_, ?_, ?_, ?_, ?_, K.pos, K.few, K.gas, K.cents, K.amount, by omega, by omega, by omega⟩
 ·show IntKind.i64.wrap (T - m84 b1 b2 b3) = _
  rw [e74, K.sum, wr (by omega) (by omega)]
 ·exact ww q1 (by omega)
 ·exact ww q2 (by omega)
 ·exact ww q6 (by omega)
 ·exact ww q7 (by omega)
noncomputable def lpOf (A : Dat) : Lp where
 n := A.sn 0 0 + 2
 a j i := if j < A.sn 0 0 then (if i = 0 then 1 else (A.sub 0 0).ii j i) else if j = A.sn 0 0 then (if i = 1 then -1 else 0) else (if i = 2 then -1 else 0)
 c j := if j < A.sn 0 0 then (A.sub 0 0).ii j 3 else 0
 l j := if j < A.sn 0 0 then 0 else if j = A.sn 0 0 then A.ii 0 10 else A.ii 0 12
 u j := if j < A.sn 0 0 then (A.sub 0 0).ii j 4 else if j = A.sn 0 0 then A.ii 0 11 else A.ii 0 13
 b i := if i = 0 then A.ii 0 9 else 0
section
variable {A : Dat} {n : Nat} {d : Dat} {w O1 O2 H1 H2 : Int} (K : AskK A n d w O1 O2 H1 H2)
include K
theorem lp_n : (lpOf A).n = n + 2 := by simp [lpOf, K.s0]
theorem lp_a {j : Nat} (hj : j < n) (i : Nat) : (lpOf A).a j i = if i = 0 then 1 else d.ii j i := by simp [lpOf, K.s0, K.s1, hj]
theorem lp_a1 (i : Nat) : (lpOf A).a n i = if i = 1 then -1 else 0 := by simp [lpOf, K.s0]
theorem lp_a2 (i : Nat) : (lpOf A).a (n + 1) i = if i = 2 then -1 else 0 := by simp [lpOf, K.s0]; intro h; omega
theorem lp_c {j : Nat} (hj : j < n) : (lpOf A).c j = d.ii j 3 := by simp [lpOf, K.s0, K.s1, hj]
theorem lp_c1 {j : Nat} (hj : n ≤ j) : (lpOf A).c j = 0 := by simp [lpOf, K.s0, Nat.not_lt.2 hj]
theorem lp_l {j : Nat} (hj : j < n) : (lpOf A).l j = 0 := by simp [lpOf, K.s0, hj]
theorem lp_l1 : (lpOf A).l n = O1 := by simp [lpOf, K.s0, K.s10]
theorem lp_l2 : (lpOf A).l (n + 1) = H1 := by simp [lpOf, K.s0, K.s12]; intro h; omega
theorem lp_u {j : Nat} (hj : j < n) : (lpOf A).u j = d.ii j 4 := by simp [lpOf, K.s0, K.s1, hj]
theorem lp_u1 : (lpOf A).u n = O2 := by simp [lpOf, K.s0, K.s11]
theorem lp_u2 : (lpOf A).u (n + 1) = H2 := by simp [lpOf, K.s0, K.s13]; intro h; omega
theorem lp_b0 : (lpOf A).b 0 = w := by simp [lpOf, K.s9]
theorem lp_b1 {i : Nat} (hi : i ≠ 0) : (lpOf A).b i = 0 := by simp [lpOf, hi]
theorem lp_lu : ∀ j, j < (lpOf A).n → (lpOf A).l j ≤ (lpOf A).u j := by
 intro j hj
 rw [lp_n K] at hj
 rcases (by omega : j < n ∨ j = n ∨ j = n + 1) with h | rfl | rfl
 ·rw [lp_l K h, lp_u K h]; exact (K.amount j h).1
 ·rw [lp_l1 K, lp_u1 K]; exact K.O.2.1
 ·rw [lp_l2 K, lp_u2 K]; exact K.H.2.1
theorem lp_span : (lpOf A).Span := by
 have hp := K.pos
 refine ⟨0, n, n + 1, ?_, ?_, ?_, ?_, ?_, ?_, ?_, ?_, ?_, ?_⟩
 ·rw [lp_n K]; omega
 ·rw [lp_n K]; omega
 ·rw [lp_n K]; omega
 ·rw [lp_a K hp]; rfl
 ·rw [lp_a1 K]; rfl
 ·rw [lp_a1 K]; rfl
 ·rw [lp_a1 K]; rfl
 ·rw [lp_a2 K]; rfl
 ·rw [lp_a2 K]; rfl
 ·rw [lp_a2 K]; rfl
theorem lp_sum (X f : Nat → Int) : sm (fun j => X j * f j) (lpOf A).n = sm (fun j => X j * f j) n + X n * f n + X (n + 1) * f (n + 1) := by rw [lp_n K]; rfl
noncomputable def xOf (n : Nat) (d dp : Dat) : Nat → Int := fun j => if j < n then dp.ii j 0 else if j = n then sm (fun i => dp.ii i 0 * d.ii i 1) n else sm (fun i => dp.ii i 0 * d.ii i 2) n
theorem cost_eq (X : Nat → Int) : (lpOf A).cost X = sm (fun i => X i * d.ii i 3) n := by
 unfold Lp.cost
 rw [lp_sum K, lp_c1 K (Nat.le_refl n), lp_c1 K (by omega : n ≤ n + 1), sm_congr (g := fun i => X i * d.ii i 3) fun j hj => by rw [lp_c K hj]]
 omega
theorem plan_iff (D : Int) (X : Nat → Int) : (lpOf A).Plan D X ↔ 0 < D ∧ (∀ j, j < n → 0 ≤ X j ∧ X j ≤ D * d.ii j 4) ∧ (D * O1 ≤ X n ∧ X n ≤ D * O2) ∧ (D * H1 ≤ X (n + 1) ∧ X (n + 1) ≤ D * H2) ∧
  sm (fun i => X i) n = D * w ∧ sm (fun i => X i * d.ii i 1) n = X n ∧ sm (fun i => X i * d.ii i 2) n = X (n + 1) := by
 have s0 : sm (fun j => X j * (lpOf A).a j 0) (lpOf A).n = sm (fun i => X i) n := by
  rw [lp_sum K, lp_a1 K, lp_a2 K, sm_congr (g := fun i => X i) fun j hj => by rw [lp_a K hj]; simp]; simp
 have s1 : sm (fun j => X j * (lpOf A).a j 1) (lpOf A).n = sm (fun i => X i * d.ii i 1) n - X n := by
  rw [lp_sum K, lp_a1 K, lp_a2 K, sm_congr (g := fun i => X i * d.ii i 1) fun j hj => by rw [lp_a K hj]; simp]; simp; omega
 have s2 : sm (fun j => X j * (lpOf A).a j 2) (lpOf A).n = sm (fun i => X i * d.ii i 2) n - X (n + 1) := by
  rw [lp_sum K, lp_a1 K, lp_a2 K, sm_congr (g := fun i => X i * d.ii i 2) fun j hj => by rw [lp_a K hj]; simp]; simp; omega
 constructor
 ·rintro ⟨h1, h2, h3⟩
  have g0 := h3 0 (by omega)
  have g1 := h3 1 (by omega)
  have g2 := h3 2 (by omega)
  rw [s0, lp_b0 K] at g0
  rw [s1, lp_b1 K (by omega)] at g1
  rw [s2, lp_b1 K (by omega)] at g2
  have b1 := h2 n (by rw [lp_n K]; omega)
  have b2 := h2 (n + 1) (by rw [lp_n K]; omega)
  rw [lp_l1 K, lp_u1 K] at b1
  rw [lp_l2 K, lp_u2 K] at b2
  refine ⟨h1, fun j hj => ?_, b1, b2, g0, by omega, by omega⟩
  have := h2 j (by rw [lp_n K]; omega)
  rw [lp_l K hj, lp_u K hj] at this
  omega
 ·rintro ⟨h1, h2, h3, h4, g0, g1, g2⟩
  refine ⟨h1, fun j hj => ?_, fun i hi => ?_⟩
  ·rw [lp_n K] at hj
   rcases (by omega : j < n ∨ j = n ∨ j = n + 1) with h | rfl | rfl
   ·have := h2 j h
    rw [lp_l K h, lp_u K h]; omega
   ·rw [lp_l1 K, lp_u1 K]; exact h3
   ·rw [lp_l2 K, lp_u2 K]; exact h4
  ·rcases (by omega : i = 0 ∨ i = 1 ∨ i = 2) with rfl | rfl | rfl
   ·rw [s0, lp_b0 K]; exact g0
   ·rw [s1, lp_b1 K (by omega)]; omega
   ·rw [s2, lp_b1 K (by omega)]; omega
omit K in
theorem sm_bnd {f : Nat → Int} {M : Int} : ∀ {i : Nat}, (∀ j, j < i → 0 ≤ f j ∧ f j ≤ M) → 0 ≤ sm f i ∧ sm f i ≤ (i : Int) * M
 | 0, _ => by simp [sm]
 | i + 1, h => by
  have h1 := sm_bnd (i := i) fun j hj => h j (by omega)
  have h2 := h i (by omega)
  have e : ((i + 1 : Nat) : Int) * M = (i : Int) * M + M := by
   rw [show ((i + 1 : Nat) : Int) = (i : Int) + 1 by omega, Int.add_mul, Int.one_mul]
  rw [e]
  simp only [sm]; omega
omit K in
theorem mulb2 {den x : Int} (h1 : 1 ≤ den) (h2 : den ≤ 1000000) (hx : -10000000000 ≤ x ∧ x ≤ 10000000000) : -10000000000000000 ≤ den * x ∧ den * x ≤ 10000000000000000 := by
 rcases Int.le_total 0 x with h | h
 ·have := mulb (show 0 ≤ den by omega) h2 h hx.2; omega
 ·have := mulb (show 0 ≤ den by omega) h2 (show 0 ≤ -x by omega) (show -x ≤ 10000000000 by omega)
  have e : den * -x = -(den * x) := Int.mul_neg _ _
  omega
theorem cost_loop {dp : Dat} {den : Int} (hd0 : 1 ≤ den) (hd1 : den ≤ 1000000) :
  ∀ (k i f : Nat), i + k = n → k < f → (∀ j, j < i → 0 ≤ dp.ii j 0 ∧ dp.ii j 0 ≤ den * d.ii j 4) →
   (∃ x c' w' o' h', l97_1 A n d (n : Int) n dp den f (sm (fun j => dp.ii j 0 * d.ii j 3) i) (sm (fun j => dp.ii j 0) i) (sm (fun j => dp.ii j 0 * d.ii j 1) i) (sm (fun j => dp.ii j 0 * d.ii j 2) i) (i : Int) = some (true, (0, 20, c', w', o', h'), x) ∧ ∃ j, j < n ∧ ¬ (0 ≤ dp.ii j 0 ∧ dp.ii j 0 ≤ den * d.ii j 4)) ∨
   (l97_1 A n d (n : Int) n dp den f (sm (fun j => dp.ii j 0 * d.ii j 3) i) (sm (fun j => dp.ii j 0) i) (sm (fun j => dp.ii j 0 * d.ii j 1) i) (sm (fun j => dp.ii j 0 * d.ii j 2) i) (i : Int) = some (false, default, (sm (fun j => dp.ii j 0 * d.ii j 3) n, sm (fun j => dp.ii j 0) n, sm (fun j => dp.ii j 0 * d.ii j 1) n, sm (fun j => dp.ii j 0 * d.ii j 2) n)) ∧ ∀ j, j < n → 0 ≤ dp.ii j 0 ∧ dp.ii j 0 ≤ den * d.ii j 4)
 | 0, i, f, hi, hf, hb => by
  obtain ⟨f, rfl⟩ : ∃ g, f = g + 1 := ⟨f - 1, by omega⟩
  obtain rfl : i = n := by omega
  right
  refine ⟨?_, hb⟩
  simp only [l97_1, cdn]; rfl
 | k + 1, i, f, hi, hf, hb => by
  obtain ⟨f, rfl⟩ : ∃ g, f = g + 1 := ⟨f - 1, by omega⟩
  have hin : i < n := by omega
  have few := K.few
  have am := K.amount i hin
  have ga := K.gas i hin
  have ce := K.cents i hin
  have m1 := mulb (show 0 ≤ den by omega) hd1 am.1 am.2
  have w1 : IntKind.i64.wrap (den * d.ii i 4) = den * d.ii i 4 := wr (by omega) (by omega)
  have e73 : ∀ x y z, m83 x y z = m32 x y z := fun x y z => rfl
  have part : ∀ j, j < i → 0 ≤ dp.ii j 0 ∧ dp.ii j 0 ≤ 10000000000000 := fun j hj => by
   have := hb j hj
   have am := K.amount j (by omega)
   have m1 := mulb (show 0 ≤ den by omega) hd1 am.1 am.2
   omega
  have bc := sm_bnd (f := fun j => dp.ii j 0 * d.ii j 3) (M := 10000000000000000) (i := i) fun j hj => by
   have p := part j hj
   have := K.cents j (by omega)
   have := mulb p.1 p.2 this.1 this.2
   omega
  have bw := sm_bnd (f := fun j => dp.ii j 0) (M := 10000000000000) (i := i) part
  have bo := sm_bnd (f := fun j => dp.ii j 0 * d.ii j 1) (M := 10000000000000000) (i := i) fun j hj => by
   have p := part j hj
   have := (K.gas j (by omega)).1
   have := mulb p.1 p.2 this.1 this.2
   omega
  have bh := sm_bnd (f := fun j => dp.ii j 0 * d.ii j 2) (M := 10000000000000000) (i := i) fun j hj => by
   have p := part j hj
   have := (K.gas j (by omega)).2.1
   have := mulb p.1 p.2 this.1 this.2
   omega
  by_cases hx : 0 ≤ dp.ii i 0 ∧ dp.ii i 0 ≤ den * d.ii i 4
  ·have hm : m32 (dp.ii i 0) 0 (den * d.ii i 4) = true := m32_iff.2 hx
   have x1 : dp.ii i 0 ≤ 10000000000000 := by omega
   have q1 := mulb hx.1 x1 ce.1 ce.2
   have q2 := mulb hx.1 x1 ga.1.1 ga.1.2
   have q6 := mulb hx.1 x1 ga.2.1.1 ga.2.1.2
   have r := cost_loop (dp := dp) hd0 hd1 k (i + 1) f (by omega) (by omega) (fun j hj => by
    rcases Nat.lt_or_ge j i with h | h
    ·exact hb j h
    ·obtain rfl : j = i := by omega
     exact hx)
   simp only [sm] at r
   generalize sm (fun j => dp.ii j 0 * d.ii j 3) i = c at *
   generalize sm (fun j => dp.ii j 0) i = w at *
   generalize sm (fun j => dp.ii j 0 * d.ii j 1) i = o at *
   generalize sm (fun j => dp.ii j 0 * d.ii j 2) i = h at *
   have u1 : IntKind.i64.wrap (c + IntKind.i64.wrap (dp.ii i 0 * d.ii i 3)) = c + dp.ii i 0 * d.ii i 3 := by rw [wr (n := dp.ii i 0 * d.ii i 3) (by omega) (by omega), wr (by omega) (by omega)]
   have u2 : IntKind.i64.wrap (w + dp.ii i 0) = w + dp.ii i 0 := wr (by omega) (by omega)
   have u3 : IntKind.i64.wrap (o + IntKind.i64.wrap (dp.ii i 0 * d.ii i 1)) = o + dp.ii i 0 * d.ii i 1 := by rw [wr (n := dp.ii i 0 * d.ii i 1) (by omega) (by omega), wr (by omega) (by omega)]
   have u4 : IntKind.i64.wrap (h + IntKind.i64.wrap (dp.ii i 0 * d.ii i 2)) = h + dp.ii i 0 * d.ii i 2 := by rw [wr (n := dp.ii i 0 * d.ii i 2) (by omega) (by omega), wr (by omega) (by omega)]
   have u7 : IntKind.i64.wrap ((i : Int) + 1) = ((i + 1 : Nat) : Int) := by rw [wr (by omega) (by omega)]; omega
   simp only [l97_1, cdl hin, cdd hin, cond_true, Int.toNat_natCast, Nat.zero_add, Nat.reduceAdd, w1, e73, hm, cond_false, u1, u2, u3, u4, u7]
   exact r
  ·left
   have hm : m32 (dp.ii i 0) 0 (den * d.ii i 4) = false := m32_f hx
   simp only [l97_1, cdl hin, cdd hin, cond_true, Int.toNat_natCast, Nat.zero_add, Nat.reduceAdd, w1, e73, hm, cond_false]
   exact ⟨_, _, _, _, _, rfl, i, hin, hx⟩
omit K in
theorem xOf_lt {dp : Dat} {j : Nat} (h : j < n) : xOf n d dp j = dp.ii j 0 := if_pos h
omit K in
theorem xOf_n {dp : Dat} : xOf n d dp n = sm (fun i => dp.ii i 0 * d.ii i 1) n := by simp [xOf]
omit K in
theorem xOf_n1 {dp : Dat} : xOf n d dp (n + 1) = sm (fun i => dp.ii i 0 * d.ii i 2) n := by simp [xOf]; intro h; omega
theorem xcost (dp : Dat) : (lpOf A).cost (xOf n d dp) = sm (fun i => dp.ii i 0 * d.ii i 3) n := by
 rw [cost_eq K]; exact sm_congr fun j hj => by rw [xOf_lt hj]
theorem xplan_iff (D : Int) (dp : Dat) : (lpOf A).Plan D (xOf n d dp) ↔ 0 < D ∧ (∀ j, j < n → 0 ≤ dp.ii j 0 ∧ dp.ii j 0 ≤ D * d.ii j 4) ∧ (D * O1 ≤ sm (fun i => dp.ii i 0 * d.ii i 1) n ∧ sm (fun i => dp.ii i 0 * d.ii i 1) n ≤ D * O2) ∧
  (D * H1 ≤ sm (fun i => dp.ii i 0 * d.ii i 2) n ∧ sm (fun i => dp.ii i 0 * d.ii i 2) n ≤ D * H2) ∧ sm (fun i => dp.ii i 0) n = D * w := by
 rw [plan_iff K, xOf_n, xOf_n1]
 have e0 : sm (fun i => xOf n d dp i) n = sm (fun i => dp.ii i 0) n := sm_congr fun j hj => by rw [xOf_lt hj]
 have e1 : sm (fun i => xOf n d dp i * d.ii i 1) n = sm (fun i => dp.ii i 0 * d.ii i 1) n := sm_congr fun j hj => by rw [xOf_lt hj]
 have e2 : sm (fun i => xOf n d dp i * d.ii i 2) n = sm (fun i => dp.ii i 0 * d.ii i 2) n := sm_congr fun j hj => by rw [xOf_lt hj]
 rw [e0, e1, e2]
 constructor
 ·rintro ⟨a, b, c, e, f, _, _⟩
  exact ⟨a, fun j hj => by have := b j hj; rwa [xOf_lt hj] at this, c, e, f⟩
 ·rintro ⟨a, b, c, e, f⟩
  exact ⟨a, fun j hj => by rw [xOf_lt hj]; exact b j hj, c, e, f, rfl, rfl⟩
theorem plan_spec (p : Nat) (dp : Dat) (den : Int) : n97 A p dp den = true ∧
  ((m97 A p dp den).2 = 0 → p = n ∧ (1 ≤ den ∧ den ≤ 1000000) ∧ (lpOf A).Plan den (xOf n d dp) ∧ (m97 A p dp den).1 = (lpOf A).cost (xOf n d dp)) ∧
  (p = n → 1 ≤ den → den ≤ 1000000 → (lpOf A).Plan den (xOf n d dp) → m97 A p dp den = ((lpOf A).cost (xOf n d dp), 0)) := by
 have e73 : ∀ x y z, m83 x y z = m32 x y z := fun x y z => rfl
 rw [xplan_iff K, xcost K]
 simp only [n97, m97, K.s0, K.s1, Nat.zero_add, Nat.reduceAdd, K.s9, K.s10, K.s11, K.s12, K.s13, e73]
 by_cases hp : p = n
 ·subst hp
  simp only [decide_true, cond_true, cond_false]
  by_cases hden : 1 ≤ den ∧ den ≤ 1000000
  ·have hm : m32 den 1 1000000 = true := m32_iff.2 hden
   simp only [hm, cond_true, cond_false]
   have few := K.few
   obtain ⟨F, hF, g1⟩ : ∃ F, p < F ∧ o97_1 A p d (p : Int) p dp den 0 0 0 0 0 = l97_1 A p d (p : Int) p dp den F 0 0 0 0 ((0 : Nat) : Int) := by
    refine ⟨_, ?_, rfl⟩
    omega
   have L := cost_loop K (dp := dp) hden.1 hden.2 p 0 F (by omega) hF (fun j hj => by omega)
   simp only [sm] at L
   rw [← g1] at L
   rcases L with ⟨x, c', w', o', h', r, j, hj, hbad⟩ | ⟨r, hall⟩
   ·rw [r]
    refine ⟨rfl, fun h => ?_, fun _ _ _ h => absurd (h.2.1 j hj) hbad⟩
    have h : (20 : Int) = 0 := h
    omega
   ·rw [r]
    have pO := mulb2 hden.1 hden.2 (x := O1) ⟨K.O.1, by have := K.O; omega⟩
    have pO2 := mulb2 hden.1 hden.2 (x := O2) ⟨by have := K.O; omega, K.O.2.2⟩
    have pH := mulb2 hden.1 hden.2 (x := H1) ⟨K.H.1, by have := K.H; omega⟩
    have pH2 := mulb2 hden.1 hden.2 (x := H2) ⟨by have := K.H; omega, K.H.2.2⟩
    have pW := mulb2 hden.1 hden.2 (x := w) ⟨by have := K.W; omega, by have := K.W; omega⟩
    simp only [Option.isSome_some, Option.getD_some, cond_false]
    rw [wr (n := den * w) (by omega) (by omega), wr (n := den * O1) (by omega) (by omega), wr (n := den * O2) (by omega) (by omega), wr (n := den * H1) (by omega) (by omega), wr (n := den * H2) (by omega) (by omega)]
    generalize sm (fun j => dp.ii j 0 * d.ii j 3) p = c at *
    generalize sm (fun j => dp.ii j 0) p = ww at *
    generalize sm (fun j => dp.ii j 0 * d.ii j 1) p = o at *
    generalize sm (fun j => dp.ii j 0 * d.ii j 2) p = h at *
    refine ⟨rfl, fun hz => ?_, fun _ _ _ hP => ?_⟩
    ·by_cases q1 : ww = den * w
     ·by_cases q2 : den * O1 ≤ o ∧ o ≤ den * O2
      ·by_cases q3 : den * H1 ≤ h ∧ h ≤ den * H2
       ·refine ⟨trivial, hden, ⟨by omega, hall, q2, q3, q1⟩, ?_⟩
        rw [m32_iff.2 q2, m32_iff.2 q3, q1]; simp
       ·rw [m32_f q3, m32_iff.2 q2, q1] at hz; simp at hz
      ·rw [m32_f q2, q1] at hz; simp at hz
     ·simp [q1] at hz
    ·rw [m32_iff.2 hP.2.2.1, m32_iff.2 hP.2.2.2.1, hP.2.2.2.2]; simp
  ·have hm : m32 den 1 1000000 = false := m32_f hden
   simp only [hm, cond_false, cond_true]
   refine ⟨trivial, fun h => ?_, fun _ h1 h2 _ => absurd ⟨h1, h2⟩ hden⟩
   omega
 ·have hq : ¬ (p : Int) = (n : Int) := by omega
  simp only [hq, decide_false, cond_false, cond_true]
  exact ⟨trivial, fun h => by omega, fun h => absurd h hp⟩
def vterm (d : Dat) (W x y den times : Int) (i : Nat) : Int := d.ii i 4 * max 0 (W + d.ii i 1 * x + d.ii i 2 * y - times * den * d.ii i 3)
theorem value_spec {W a b c e den times : Int} (ht : times = 0 ∨ times = 1) (hden : 1 ≤ den ∧ den ≤ 1000000) (hW : -10000000000 ≤ W ∧ W ≤ 10000000000) (ha : 0 ≤ a ∧ a ≤ 10000000) (hb : 0 ≤ b ∧ b ≤ 10000000) (hc : 0 ≤ c ∧ c ≤ 10000000) (he : 0 ≤ e ∧ e ≤ 10000000) :
  n99 A W a b c e den times = true ∧ m99 A W a b c e den times = W * w + a * O1 - b * O2 + c * H1 - e * H2 - sm (vterm d W (a - b) (c - e) den times) n := by
 have few := K.few
 have hn : n ≤ 9223372036854775807 := by omega
 have kO := K.O
 have kH := K.H
 have kW := K.W
 have mb : ∀ {x y M N : Int}, -M ≤ x → x ≤ M → -N ≤ y → y ≤ N → -(M * N) ≤ x * y ∧ x * y ≤ M * N := fun {x y M N} h1 h2 h3 h4 => by
  rcases Int.le_total 0 x with hx | hx <;> rcases Int.le_total 0 y with hy | hy
  ·have := Int.mul_nonneg hx hy
   have := Int.mul_le_mul h2 h4 hy (by omega); omega
  ·have := Int.mul_nonneg hx (show 0 ≤ -y by omega)
   have := Int.mul_le_mul h2 (show -y ≤ N by omega) (by omega) (by omega)
   have : x * -y = -(x * y) := Int.mul_neg _ _
   omega
  ·have := Int.mul_nonneg (show 0 ≤ -x by omega) hy
   have := Int.mul_le_mul (show -x ≤ M by omega) h4 hy (by omega)
   have : -x * y = -(x * y) := Int.neg_mul _ _
   omega
  ·have := Int.mul_nonneg (show 0 ≤ -x by omega) (show 0 ≤ -y by omega)
   have := Int.mul_le_mul (show -x ≤ M by omega) (show -y ≤ N by omega) (by omega) (by omega)
   have : -x * -y = x * y := Int.neg_mul_neg _ _
   omega
 have p1 := mb hW.1 hW.2 (show -10000000 ≤ w by omega) kW.2
 have p2 := mb (show -10000000 ≤ a by omega) ha.2 kO.1 (show O1 ≤ 10000000000 by omega)
 have p3 := mb (show -10000000 ≤ b by omega) hb.2 (show -10000000000 ≤ O2 by omega) kO.2.2
 have p4 := mb (show -10000000 ≤ c by omega) hc.2 kH.1 (show H1 ≤ 10000000000 by omega)
 have p5 := mb (show -10000000 ≤ e by omega) he.2 (show -10000000000 ≤ H2 by omega) kH.2.2
 have start : IntKind.i64.wrap (IntKind.i64.wrap (IntKind.i64.wrap (IntKind.i64.wrap (IntKind.i64.wrap (W * w) + IntKind.i64.wrap (a * O1)) - IntKind.i64.wrap (b * O2)) + IntKind.i64.wrap (c * H1)) - IntKind.i64.wrap (e * H2)) = W * w + a * O1 - b * O2 + c * H1 - e * H2 := by
  rw [wr (n := W * w) (by omega) (by omega), wr (n := a * O1) (by omega) (by omega), wr (n := b * O2) (by omega) (by omega), wr (n := c * H1) (by omega) (by omega), wr (n := e * H2) (by omega) (by omega)]
  rw [wr (n := W * w + a * O1) (by omega) (by omega), wr (n := W * w + a * O1 - b * O2) (by omega) (by omega), wr (n := W * w + a * O1 - b * O2 + c * H1) (by omega) (by omega), wr (by omega) (by omega)]
 have vt : ∀ i, i < n → 0 ≤ vterm d W (a - b) (c - e) den times i ∧ vterm d W (a - b) (c - e) den times i ≤ 10000000 * 31000000000 ∧
   IntKind.i64.wrap (d.ii i 4 * imax 0 (IntKind.i64.wrap (IntKind.i64.wrap (IntKind.i64.wrap (W + IntKind.i64.wrap (d.ii i 1 * IntKind.i64.wrap (a - b))) + IntKind.i64.wrap (d.ii i 2 * IntKind.i64.wrap (c - e))) - IntKind.i64.wrap (IntKind.i64.wrap (times * den) * d.ii i 3)))) = vterm d W (a - b) (c - e) den times i := by
  intro i hi
  have g := K.gas i hi
  have cs := K.cents i hi
  have am := K.amount i hi
  have t1 : 0 ≤ times * den ∧ times * den ≤ 1000000 := by rcases ht with rfl | rfl <;> omega
  have t2 := mulb t1.1 t1.2 cs.1 cs.2
  have y1 := mb (show -1000 ≤ d.ii i 1 by omega) g.1.2 (show -10000000 ≤ a - b by omega) (show a - b ≤ 10000000 by omega)
  have y2 := mb (show -1000 ≤ d.ii i 2 by omega) g.2.1.2 (show -10000000 ≤ c - e by omega) (show c - e ≤ 10000000 by omega)
  rw [wr (n := a - b) (by omega) (by omega), wr (n := c - e) (by omega) (by omega), wr (n := times * den) (by omega) (by omega), wr (n := times * den * d.ii i 3) (by omega) (by omega), wr (n := d.ii i 1 * (a - b)) (by omega) (by omega), wr (n := d.ii i 2 * (c - e)) (by omega) (by omega)]
  rw [wr (n := W + d.ii i 1 * (a - b)) (by omega) (by omega), wr (n := W + d.ii i 1 * (a - b) + d.ii i 2 * (c - e)) (by omega) (by omega), wr (n := W + d.ii i 1 * (a - b) + d.ii i 2 * (c - e) - times * den * d.ii i 3) (by omega) (by omega)]
  have hmx : imax 0 (W + d.ii i 1 * (a - b) + d.ii i 2 * (c - e) - times * den * d.ii i 3) = max 0 (W + d.ii i 1 * (a - b) + d.ii i 2 * (c - e) - times * den * d.ii i 3) := by
   unfold imax; split <;> omega
  rw [hmx]
  have mm := mulb am.1 am.2 (show 0 ≤ max 0 (W + d.ii i 1 * (a - b) + d.ii i 2 * (c - e) - times * den * d.ii i 3) by omega) (show max 0 (W + d.ii i 1 * (a - b) + d.ii i 2 * (c - e) - times * den * d.ii i 3) ≤ 31000000000 by omega)
  unfold vterm
  rw [wr (by omega) (by omega)]
  exact ⟨mm.1, mm.2, rfl⟩
 have key : ∀ (k i : Nat) (s : Int), i + k = n → -1000000000000000000 + (k : Int) * (10000000 * 31000000000) - 5 * (10000000 * 31000000000) ≤ s ∧ s ≤ 1000000000000000000 →
   runs (valE d W a b c e fun i => IntKind.i64.wrap (IntKind.i64.wrap (times * den) * d.ii i 3)) id k i s = s - (sm (vterm d W (a - b) (c - e) den times) n - sm (vterm d W (a - b) (c - e) den times) i) := by
  intro k
  induction k with
  | zero =>
    intro i s hi hs; obtain rfl : i = n := by omega
    simp only [runs, id]; omega
  | succ k ih =>
   intro i s hi hs
   have hin : i < n := by omega
   obtain ⟨v1, v2, v3⟩ := vt i hin
   have e1 : valE d W a b c e (fun i => IntKind.i64.wrap (IntKind.i64.wrap (times * den) * d.ii i 3)) i s = .inr (s - vterm d W (a - b) (c - e) den times i) := by
    unfold valE
    rw [v3, wr (by omega) (by omega)]
   simp only [runs, e1]
   rw [ih (i + 1) _ (by omega) (by omega)]
   simp only [sm]; omega
 simp only [n99, m99, K.s0, K.s1, Nat.zero_add, Nat.reduceAdd, K.s9, K.s10, K.s11, K.s12, K.s13, val_prog hn, Option.isSome_some, Option.getD_some]
 refine ⟨rfl, ?_⟩
 rw [start, key n 0 _ (by omega) (by omega)]
 simp only [sm]; omega
end
end Go.Proofs.Ytmndejpcpfkajaa
namespace Go.Proofs.Ytmndejpcpfkajaa
open Go Go.Sy Lin
set_option linter.unusedVariables false
set_option linter.unusedSimpArgs false
set_option linter.unusedSectionVars false
set_option maxRecDepth 100000
section
variable {A : Dat} {n : Nat} {d : Dat} {w O1 O2 H1 H2 : Int} (K : AskK A n d w O1 O2 H1 H2)
include K
theorem H_eq (y0 y1 y2 s : Int) : (lpOf A).H y0 y1 y2 s = y0 * w - Lp.phi O1 O2 (-y1) - Lp.phi H1 H2 (-y2) - sm (fun j => d.ii j 4 * max 0 (y0 + d.ii j 1 * y1 + d.ii j 2 * y2 - s * d.ii j 3)) n := by
 unfold Lp.H
 rw [lp_n K]
 simp only [sm]
 have e1 : Lp.phi ((lpOf A).l n) ((lpOf A).u n) ((lpOf A).yl y0 y1 y2 n - s * (lpOf A).c n) = Lp.phi O1 O2 (-y1) := by
  rw [lp_l1 K, lp_u1 K, lp_c1 K (Nat.le_refl n)]
  congr 1
  unfold Lp.yl
  rw [lp_a1 K, lp_a1 K, lp_a1 K]; simp
 have e2 : Lp.phi ((lpOf A).l (n + 1)) ((lpOf A).u (n + 1)) ((lpOf A).yl y0 y1 y2 (n + 1) - s * (lpOf A).c (n + 1)) = Lp.phi H1 H2 (-y2) := by
  rw [lp_l2 K, lp_u2 K, lp_c1 K (by omega)]
  congr 1
  unfold Lp.yl
  rw [lp_a2 K, lp_a2 K, lp_a2 K]; simp
 have e3 : sm (fun j => Lp.phi ((lpOf A).l j) ((lpOf A).u j) ((lpOf A).yl y0 y1 y2 j - s * (lpOf A).c j)) n = sm (fun j => d.ii j 4 * max 0 (y0 + d.ii j 1 * y1 + d.ii j 2 * y2 - s * d.ii j 3)) n := by
  refine sm_congr fun j hj => ?_
  rw [lp_l K hj, lp_u K hj, lp_c K hj]
  unfold Lp.yl
  rw [lp_a K hj, lp_a K hj, lp_a K hj]
  have er : y0 * (if 0 = 0 then 1 else d.ii j 0) + y1 * (if 1 = 0 then 1 else d.ii j 1) + y2 * (if 2 = 0 then 1 else d.ii j 2) - s * d.ii j 3 = y0 + d.ii j 1 * y1 + d.ii j 2 * y2 - s * d.ii j 3 := by simp; grind
  rw [er]
  generalize y0 + d.ii j 1 * y1 + d.ii j 2 * y2 - s * d.ii j 3 = r
  have am := K.amount j hj
  rcases Int.le_total 0 r with h | h
  ·rw [Lp.phi_pos am.1 h, show max 0 r = r by omega]
  ·rw [Lp.phi_neg am.1 h, show max 0 r = 0 by omega]; simp
 rw [e1, e2, e3, lp_b0 K, lp_b1 K (by omega), lp_b1 K (by omega)]
 omega
theorem value_le {W a b c e den times : Int} (ht : times = 0 ∨ times = 1) (hden : 1 ≤ den ∧ den ≤ 1000000) (hW : -10000000000 ≤ W ∧ W ≤ 10000000000) (ha : 0 ≤ a ∧ a ≤ 10000000) (hb : 0 ≤ b ∧ b ≤ 10000000) (hc : 0 ≤ c ∧ c ≤ 10000000) (he : 0 ≤ e ∧ e ≤ 10000000) :
  m99 A W a b c e den times ≤ (lpOf A).H W (a - b) (c - e) (times * den) ∧ ((a = 0 ∨ b = 0) → (c = 0 ∨ e = 0) → m99 A W a b c e den times = (lpOf A).H W (a - b) (c - e) (times * den)) := by
 rw [(value_spec K ht hden hW ha hb hc he).2, H_eq K]
 have es : sm (vterm d W (a - b) (c - e) den times) n = sm (fun j => d.ii j 4 * max 0 (W + d.ii j 1 * (a - b) + d.ii j 2 * (c - e) - times * den * d.ii j 3)) n := rfl
 rw [es]
 have side : ∀ {a b l u : Int}, l ≤ u → 0 ≤ a → 0 ≤ b → a * l - b * u ≤ - Lp.phi l u (-(a - b)) ∧ ((a = 0 ∨ b = 0) → a * l - b * u = - Lp.phi l u (-(a - b))) := by
  intro a b l u hlu ha hb
  have m1 := Int.mul_le_mul_of_nonneg_left hlu ha
  have m2 := Int.mul_le_mul_of_nonneg_left hlu hb
  rcases Int.le_total a b with h | h
  ·rw [Lp.phi_pos hlu (by omega)]
   have e : u * -(a - b) = b * u - a * u := by grind
   rw [e]
   refine ⟨by omega, fun h0 => ?_⟩
   rcases h0 with rfl | rfl
   ·omega
   ·obtain rfl : a = 0 := by omega
    omega
  ·rw [Lp.phi_neg hlu (by omega)]
   have e : l * -(a - b) = b * l - a * l := by grind
   rw [e]
   refine ⟨by omega, fun h0 => ?_⟩
   rcases h0 with rfl | rfl
   ·obtain rfl : b = 0 := by omega
    omega
   ·omega
 have s1 := side (a := a) (b := b) K.O.2.1 ha.1 hb.1
 have s2 := side (a := c) (b := e) K.H.2.1 hc.1 he.1
 refine ⟨by omega, fun h1 h2 => ?_⟩
 have := s1.2 h1
 have := s2.2 h2
 omega
theorem col_small {j : Nat} (hj : j < n + 2) : (-1000 ≤ (lpOf A).a j 0 ∧ (lpOf A).a j 0 ≤ 1000) ∧ (-1000 ≤ (lpOf A).a j 1 ∧ (lpOf A).a j 1 ≤ 1000) ∧ (-1000 ≤ (lpOf A).a j 2 ∧ (lpOf A).a j 2 ≤ 1000) := by
 rcases (by omega : j < n ∨ j = n ∨ j = n + 1) with h | rfl | rfl
 ·have g := K.gas j h
  rw [lp_a K h, lp_a K h, lp_a K h]; simp; omega
 ·rw [lp_a1 K, lp_a1 K, lp_a1 K]; simp
 ·rw [lp_a2 K, lp_a2 K, lp_a2 K]; simp
omit K in
theorem app_lt (D e : Dat) {m j i : Nat} (h : j < m) : (D.app m e).ii j i = D.ii j i := by
 have e : Nat.blt j m = true := by rw [Nat.blt_eq]; exact h
 simp [Dat.app, e]
omit K in
theorem app_ge (D e : Dat) {m j i : Nat} (h : m ≤ j) : (D.app m e).ii j i = e.ii (j - m) i := by
 have e : Nat.blt j m = false := by
  cases hb : Nat.blt j m
  ·rfl
  ·rw [Nat.blt_eq] at hb; omega
 simp [Dat.app, e]
theorem col_loop : ∀ (k i f : Nat) (D : Dat), i + k = n → k < f → (∀ j, j < i → ∀ c, c < 3 → D.ii j c = (lpOf A).a j c) → ∃ D', l136_0 n d (n : Int) f i (i : Int) D = some (n, n, D') ∧ ∀ j, j < n → ∀ c, c < 3 → D'.ii j c = (lpOf A).a j c
 | 0, i, f, D, hi, hf, hD => by
  obtain ⟨f, rfl⟩ : ∃ g, f = g + 1 := ⟨f - 1, by omega⟩
  obtain rfl : i = n := by omega
  exact ⟨D, by simp only [l136_0, cdn]; rfl, hD⟩
 | k + 1, i, f, D, hi, hf, hD => by
  obtain ⟨f, rfl⟩ : ∃ g, f = g + 1 := ⟨f - 1, by omega⟩
  have hin : i < n := by omega
  have few := K.few
  have u7 : IntKind.i64.wrap ((i : Int) + 1) = ((i + 1 : Nat) : Int) := by rw [wr (by omega) (by omega)]; omega
  have hc : decide (i + 1 ≤ 1073741824) = true := decide_eq_true (by omega)
  simp only [l136_0, cdl hin, cdd hin, cond_true, Int.toNat_natCast, hc, u7]
  refine col_loop k (i + 1) f _ (by omega) (by omega) fun j hj c hc3 => ?_
  rcases Nat.lt_or_ge j i with h | h
  ·rw [app_lt _ _ h]; exact hD j h c hc3
  ·obtain rfl : j = i := by omega
   rw [app_ge _ _ (Nat.le_refl j), Nat.sub_self, lp_a K hin]
   rcases (by omega : c = 0 ∨ c = 1 ∨ c = 2) with rfl | rfl | rfl <;> rfl
theorem columns_spec : n136 A = true ∧ (m136 A).1 = n + 2 ∧ ∀ j, j < n + 2 → ∀ i, i < 3 → (m136 A).2.ii j i = (lpOf A).a j i := by
 have few := K.few
 obtain ⟨D, h, hD⟩ := col_loop K n 0 (0 + n + (n : Int).toNat + (0 : Int).toNat + 8) noDat (by omega) (by omega) (fun j hj => by omega)
 have h : o136_0 n d (n : Int) 0 0 noDat = some (n, n, D) := h
 simp only [n136, m136, K.s0, K.s1, h, Option.isSome_some, Option.getD_some]
 refine ⟨?_, trivial, fun j hj i hi => ?_⟩
 ·have a1 : decide (n + 2 ≤ 1073741824) = true := decide_eq_true (by omega)
  simp; omega
 ·rcases Nat.lt_or_ge j n with g | g
  ·rw [app_lt _ _ g]; exact hD j g i hi
  ·rw [app_ge _ _ g]
   rcases (by omega : j = n ∨ j = n + 1) with rfl | rfl
   ·rw [Nat.sub_self, lp_a1 K]
    rcases (by omega : i = 0 ∨ i = 1 ∨ i = 2) with rfl | rfl | rfl <;> rfl
   ·rw [show n + 1 - n = 1 by omega, lp_a2 K]
    rcases (by omega : i = 0 ∨ i = 1 ∨ i = 2) with rfl | rfl | rfl <;> rfl
theorem bnd_loop : ∀ (k i f : Nat) (D : Dat), i + k = n → k < f → (∀ j, j < i → D.ii j 0 = (lpOf A).l j ∧ D.ii j 1 = (lpOf A).u j) → ∃ D', l157_0 A n d (n : Int) f i (i : Int) D = some (n, n, D') ∧ ∀ j, j < n → D'.ii j 0 = (lpOf A).l j ∧ D'.ii j 1 = (lpOf A).u j
 | 0, i, f, D, hi, hf, hD => by
  obtain ⟨f, rfl⟩ : ∃ g, f = g + 1 := ⟨f - 1, by omega⟩
  obtain rfl : i = n := by omega
  exact ⟨D, by simp only [l157_0, cdn]; rfl, hD⟩
 | k + 1, i, f, D, hi, hf, hD => by
  obtain ⟨f, rfl⟩ : ∃ g, f = g + 1 := ⟨f - 1, by omega⟩
  have hin : i < n := by omega
  have few := K.few
  have u7 : IntKind.i64.wrap ((i : Int) + 1) = ((i + 1 : Nat) : Int) := by rw [wr (by omega) (by omega)]; omega
  have hc : decide (i + 1 ≤ 1073741824) = true := decide_eq_true (by omega)
  simp only [l157_0, cdl hin, cdd hin, cond_true, Int.toNat_natCast, hc, u7]
  refine bnd_loop k (i + 1) f _ (by omega) (by omega) fun j hj => ?_
  rcases Nat.lt_or_ge j i with h | h
  ·rw [app_lt _ _ h, app_lt _ _ h]; exact hD j h
  ·obtain rfl : j = i := by omega
   rw [app_ge _ _ (Nat.le_refl j), app_ge _ _ (Nat.le_refl j), Nat.sub_self, lp_l K hin, lp_u K hin]
   exact ⟨rfl, rfl⟩
theorem bounds_spec : n157 A = true ∧ (m157 A).1 = n + 2 ∧ ∀ j, j < n + 2 → (m157 A).2.ii j 0 = (lpOf A).l j ∧ (m157 A).2.ii j 1 = (lpOf A).u j := by
 have few := K.few
 obtain ⟨D, h, hD⟩ := bnd_loop K n 0 (0 + n + (n : Int).toNat + (0 : Int).toNat + 8) noDat (by omega) (by omega) (fun j hj => by omega)
 have h : o157_0 A n d (n : Int) 0 0 noDat = some (n, n, D) := h
 simp only [n157, m157, K.s0, K.s1, h, Option.isSome_some, Option.getD_some]
 refine ⟨?_, trivial, fun j hj => ?_⟩
 ·have a1 : decide (n + 2 ≤ 1073741824) = true := decide_eq_true (by omega)
  simp; omega
 ·rcases Nat.lt_or_ge j n with g | g
  ·rw [app_lt _ _ g, app_lt _ _ g]; exact hD j g
  ·rw [app_ge _ _ g, app_ge _ _ g]
   rcases (by omega : j = n ∨ j = n + 1) with rfl | rfl
   ·rw [Nat.sub_self, lp_l1 K, lp_u1 K]
    exact ⟨K.s10, K.s11⟩
   ·rw [show n + 1 - n = 1 by omega, lp_l2 K, lp_u2 K]
    exact ⟨K.s12, K.s13⟩
end
end Go.Proofs.Ytmndejpcpfkajaa
namespace Go.Proofs.Ytmndejpcpfkajaa
open Go Go.Sy Lin
set_option linter.unusedVariables false
set_option linter.unusedSimpArgs false
set_option linter.unusedSectionVars false
set_option maxRecDepth 100000
section
variable {A : Dat} {n : Nat} {d : Dat} {w O1 O2 H1 H2 : Int} (K : AskK A n d w O1 O2 H1 H2)
include K
theorem col_kind {j : Nat} (hj : j < n + 2) : (j < n ∧ (lpOf A).a j 0 = 1 ∧ (0 ≤ (lpOf A).a j 1 ∧ (lpOf A).a j 1 ≤ 1000) ∧ (0 ≤ (lpOf A).a j 2 ∧ (lpOf A).a j 2 ≤ 1000) ∧ (lpOf A).a j 1 + (lpOf A).a j 2 ≤ 1000) ∨
  (j = n ∧ (lpOf A).a j 0 = 0 ∧ (lpOf A).a j 1 = -1 ∧ (lpOf A).a j 2 = 0) ∨ (j = n + 1 ∧ (lpOf A).a j 0 = 0 ∧ (lpOf A).a j 1 = 0 ∧ (lpOf A).a j 2 = -1) := by
 rcases (by omega : j < n ∨ j = n ∨ j = n + 1) with h | rfl | rfl
 ·have g := K.gas j h
  rw [lp_a K h, lp_a K h, lp_a K h]; simp [h]; omega
 ·rw [lp_a1 K, lp_a1 K, lp_a1 K]; simp
 ·rw [lp_a2 K, lp_a2 K, lp_a2 K]; simp
theorem cx_small {i j : Nat} (hi : i < n + 2) (hj : j < n + 2) : (-1000000 ≤ (lpOf A).cx0 i j ∧ (lpOf A).cx0 i j ≤ 1000000) ∧ (-1000 ≤ (lpOf A).cx1 i j ∧ (lpOf A).cx1 i j ≤ 1000) ∧ (-1000 ≤ (lpOf A).cx2 i j ∧ (lpOf A).cx2 i j ≤ 1000) := by
 unfold Lp.cx0 Lp.cx1 Lp.cx2
 rcases col_kind K hi with ⟨_, a0, a1, a2, _⟩ | ⟨_, a0, a1, a2⟩ | ⟨_, a0, a1, a2⟩ <;> rcases col_kind K hj with ⟨_, b0, b1, b2, _⟩ | ⟨_, b0, b1, b2⟩ | ⟨_, b0, b1, b2⟩
 ·have m1 := mulb a1.1 a1.2 b2.1 b2.2
  have m2 := mulb a2.1 a2.2 b1.1 b1.2
  rw [a0, b0]; omega
 all_goals first
  | (rw [a0, b0, a1, a2, b1, b2]; omega)
  | (rw [a0, b0, b1, b2]; omega)
  | (rw [a0, b0, a1, a2]; omega)
omit K in
theorem tri {o1 h1 o2 h2 o3 h3 : Int} (a1 : 0 ≤ o1) (b1 : 0 ≤ h1) (c1 : o1 + h1 ≤ 1000) (a2 : 0 ≤ o2) (b2 : 0 ≤ h2) (c2 : o2 + h2 ≤ 1000) (a3 : 0 ≤ o3) (b3 : 0 ≤ h3) (c3 : o3 + h3 ≤ 1000) :
  o2 * h3 - h2 * o3 + o1 * (h2 - h3) + h1 * (o3 - o2) ≤ 1000000 := by
 obtain ⟨r1, e1⟩ : ∃ r, r = 1000 - o1 - h1 := ⟨_, rfl⟩
 obtain ⟨r2, e2⟩ : ∃ r, r = 1000 - o2 - h2 := ⟨_, rfl⟩
 obtain ⟨r3, e3⟩ : ∃ r, r = 1000 - o3 - h3 := ⟨_, rfl⟩
 have f1 : 0 ≤ r1 := by omega
 have f2 : 0 ≤ r2 := by omega
 have f3 : 0 ≤ r3 := by omega
 have p : ∀ {x y z : Int}, 0 ≤ x → 0 ≤ y → 0 ≤ z → 0 ≤ x * y * z := fun hx hy hz => Int.mul_nonneg (Int.mul_nonneg hx hy) hz
 have whole : (o1 + h1 + r1) * (o2 + h2 + r2) * (o3 + h3 + r3) = 1000 * 1000 * 1000 := by
  rw [show o1 + h1 + r1 = 1000 by omega, show o2 + h2 + r2 = 1000 by omega, show o3 + h3 + r3 = 1000 by omega]
 have det : 1000 * (o2 * h3 - h2 * o3 + o1 * (h2 - h3) + h1 * (o3 - o2)) = o1 * h2 * r3 + h1 * r2 * o3 + r1 * o2 * h3 - o1 * r2 * h3 - h1 * o2 * r3 - r1 * h2 * o3 := by
  rw [e1, e2, e3]; grind
 have k1 := p a1 a2 a3
 have k2 := p a1 a2 b3
 have k3 := p a1 a2 f3
 have k4 := p a1 b2 a3
 have k5 := p a1 b2 b3
 have k7 := p a1 f2 a3
 have k8 := p a1 f2 b3
 have k9 := p a1 f2 f3
 have l1 := p b1 a2 a3
 have l2 := p b1 a2 b3
 have l3 := p b1 a2 f3
 have l4 := p b1 b2 a3
 have l5 := p b1 b2 b3
 have l6 := p b1 b2 f3
 have l8 := p b1 f2 b3
 have l9 := p b1 f2 f3
 have n1 := p f1 a2 a3
 have n3 := p f1 a2 f3
 have n4 := p f1 b2 a3
 have n5 := p f1 b2 b3
 have n6 := p f1 b2 f3
 have n7 := p f1 f2 a3
 have n8 := p f1 f2 b3
 have n9 := p f1 f2 f3
 have expd : (o1 + h1 + r1) * (o2 + h2 + r2) * (o3 + h3 + r3) = o1 * h2 * r3 + h1 * r2 * o3 + r1 * o2 * h3 + (o1 * r2 * h3 + h1 * o2 * r3 + r1 * h2 * o3) +
   (o1 * o2 * o3 + o1 * o2 * h3 + o1 * o2 * r3 + o1 * h2 * o3 + o1 * h2 * h3 + o1 * r2 * o3 + o1 * r2 * r3 + h1 * o2 * o3 + h1 * o2 * h3 + h1 * h2 * o3 + h1 * h2 * h3 + h1 * h2 * r3 + h1 * r2 * h3 + h1 * r2 * r3 + r1 * o2 * o3 + r1 * o2 * r3 + r1 * h2 * h3 + r1 * h2 * r3 + r1 * r2 * o3 + r1 * r2 * h3 + r1 * r2 * r3) := by grind
 omega
theorem dt_small {i j k : Nat} (hi : i < n + 2) (hj : j < i) (hk : k < j) : -1000000 ≤ (lpOf A).dt i j k ∧ (lpOf A).dt i j k ≤ 1000000 := by
 have big : ∀ {i j k : Nat}, i < n → j < n → k < n → (lpOf A).dt i j k ≤ 1000000 := fun {i j k} hi hj hk => by
  have gi := K.gas i hi
  have gj := K.gas j hj
  have gk := K.gas k hk
  have t := tri gi.1.1 gi.2.1.1 gi.2.2 gj.1.1 gj.2.1.1 gj.2.2 gk.1.1 gk.2.1.1 gk.2.2
  unfold Lp.dt Lp.cx0 Lp.cx1 Lp.cx2
  rw [lp_a K hi, lp_a K hi, lp_a K hi, lp_a K hj, lp_a K hj, lp_a K hj, lp_a K hk, lp_a K hk, lp_a K hk]
  simp
  have e : d.ii j 1 * d.ii k 2 - d.ii j 2 * d.ii k 1 + d.ii i 1 * (d.ii j 2 - d.ii k 2) + d.ii i 2 * (d.ii k 1 - d.ii j 1) ≤ 1000000 := t
  grind
 rcases Nat.lt_or_ge i n with h | h
 ·have b1 := big h (show j < n by omega) (show k < n by omega)
  have b2 := big h (show k < n by omega) (show j < n by omega)
  have e : (lpOf A).dt i k j = -(lpOf A).dt i j k := by unfold Lp.dt Lp.cx0 Lp.cx1 Lp.cx2; grind
  omega
 ·have ci := col_kind K hi
  have cj := cx_small K (i := j) (j := k) (by omega) (by omega)
  unfold Lp.dt
  rcases ci with ⟨h1, _⟩ | ⟨_, a0, a1, a2⟩ | ⟨_, a0, a1, a2⟩
  ·omega
  ·rw [a0, a1, a2]; omega
  ·rw [a0, a1, a2]; omega
noncomputable def sgB (A : Dat) (i j k : Nat) : Int := if (lpOf A).dt i j k < 0 then -1 else 1
noncomputable def tOf (A : Dat) : Dat := m135 ((m136 A).fst) ((m136 A).snd)
theorem tOf_n : (tOf A).sn 0 0 = n + 2 := (columns_spec K).2.1
theorem tOf_ii {j i : Nat} (hj : j < n + 2) (hi : i < 3) : ((tOf A).sub 0 0).ii j i = (lpOf A).a j i := (columns_spec K).2.2 j hj i hi
theorem cr_eq {i j : Nat} (hi : i < n + 2) (hj : j < n + 2) : cr155 ((tOf A).sub 0 0) i j = ((lpOf A).cx0 i j, (lpOf A).cx1 i j, (lpOf A).cx2 i j) := by
 have ci := col_small K hi
 have cj := col_small K hj
 unfold cr155 m138
 simp only [tOf_ii K hi (show 0 < 3 by omega), tOf_ii K hi (show 1 < 3 by omega), tOf_ii K hi (show 2 < 3 by omega), tOf_ii K hj (show 0 < 3 by omega), tOf_ii K hj (show 1 < 3 by omega), tOf_ii K hj (show 2 < 3 by omega)]
 have pr : ∀ {x y : Int}, -1000 ≤ x ∧ x ≤ 1000 → -1000 ≤ y ∧ y ≤ 1000 → -1000000 ≤ x * y ∧ x * y ≤ 1000000 := fun {x y} hx hy => by
  rcases Int.le_total 0 x with h | h <;> rcases Int.le_total 0 y with g | g
  ·have := mulb h hx.2 g hy.2; omega
  ·have := mulb h hx.2 (show 0 ≤ -y by omega) (show -y ≤ 1000 by omega)
   have : x * -y = -(x * y) := Int.mul_neg _ _
   omega
  ·have := mulb (show 0 ≤ -x by omega) (show -x ≤ 1000 by omega) g hy.2
   have : -x * y = -(x * y) := Int.neg_mul _ _
   omega
  ·have := mulb (show 0 ≤ -x by omega) (show -x ≤ 1000 by omega) (show 0 ≤ -y by omega) (show -y ≤ 1000 by omega)
   have : -x * -y = x * y := Int.neg_mul_neg _ _
   omega
 have sub : ∀ {x y z u : Int}, -1000 ≤ x ∧ x ≤ 1000 → -1000 ≤ y ∧ y ≤ 1000 → -1000 ≤ z ∧ z ≤ 1000 → -1000 ≤ u ∧ u ≤ 1000 → IntKind.i64.wrap (IntKind.i64.wrap (x * y) - IntKind.i64.wrap (z * u)) = x * y - z * u := fun {x y z u} hx hy hz hu => by
  have p1 := pr hx hy
  have p2 := pr hz hu
  rw [wr (n := x * y) (by omega) (by omega), wr (n := z * u) (by omega) (by omega), wr (by omega) (by omega)]
 rw [sub ci.2.1 cj.2.2 ci.2.2 cj.2.1, sub ci.2.2 cj.1 ci.1 cj.2.2, sub ci.1 cj.2.1 ci.2.1 cj.1]
 rfl
theorem det_eq {i j k : Nat} (hi : i < n + 2) (hj : j < n + 2) (hk : k < n + 2) : det155 ((tOf A).sub 0 0) i j k = (lpOf A).dt i j k := by
 have ci := col_small K hi
 have cj := cx_small K hj hk
 unfold det155 m156
 rw [cr_eq K hj hk]
 simp only [tOf_ii K hi (show 0 < 3 by omega), tOf_ii K hi (show 1 < 3 by omega), tOf_ii K hi (show 2 < 3 by omega)]
 have pr : ∀ {x y : Int}, -1000 ≤ x ∧ x ≤ 1000 → -1000000 ≤ y ∧ y ≤ 1000000 → -1000000000 ≤ x * y ∧ x * y ≤ 1000000000 := fun {x y} hx hy => by
  rcases Int.le_total 0 x with h | h <;> rcases Int.le_total 0 y with g | g
  ·have := mulb h hx.2 g hy.2; omega
  ·have := mulb h hx.2 (show 0 ≤ -y by omega) (show -y ≤ 1000000 by omega)
   have : x * -y = -(x * y) := Int.mul_neg _ _
   omega
  ·have := mulb (show 0 ≤ -x by omega) (show -x ≤ 1000 by omega) g hy.2
   have : -x * y = -(x * y) := Int.neg_mul _ _
   omega
  ·have := mulb (show 0 ≤ -x by omega) (show -x ≤ 1000 by omega) (show 0 ≤ -y by omega) (show -y ≤ 1000000 by omega)
   have : -x * -y = x * y := Int.neg_mul_neg _ _
   omega
 have p0 := pr ci.1 cj.1
 have p1 := pr ci.2.1 (show -1000000 ≤ (lpOf A).cx1 j k ∧ (lpOf A).cx1 j k ≤ 1000000 by omega)
 have p2 := pr ci.2.2 (show -1000000 ≤ (lpOf A).cx2 j k ∧ (lpOf A).cx2 j k ≤ 1000000 by omega)
 rw [wr (n := (lpOf A).a i 0 * (lpOf A).cx0 j k) (by omega) (by omega), wr (n := (lpOf A).a i 1 * (lpOf A).cx1 j k) (by omega) (by omega), wr (n := (lpOf A).a i 2 * (lpOf A).cx2 j k) (by omega) (by omega)]
 rw [wr (n := (lpOf A).a i 0 * (lpOf A).cx0 j k + (lpOf A).a i 1 * (lpOf A).cx1 j k) (by omega) (by omega), wr (by omega) (by omega)]
 rfl
theorem sg_eq {i j k : Nat} {x : Int} (hx : -1000000 ≤ x ∧ x ≤ 1000000) : sg155 (decide ((lpOf A).dt i j k < 0)) x = sgB A i j k * x := by
 unfold sg155 sgB
 by_cases h : (lpOf A).dt i j k < 0
 ·rw [decide_eq_true h, if_pos h, cond_true, wr (by omega) (by omega)]; omega
 ·rw [decide_eq_false h, if_neg h, cond_false]; omega
theorem isB_eq {i j k : Nat} (hi : i < n + 2) (hj : j < i) (hk : k < j) : isB155 ((tOf A).sub 0 0) i j k = decide ((lpOf A).dt i j k ≠ 0) := by
 unfold isB155
 rw [det_eq K hi (by omega) (by omega), sg_eq K (dt_small K hi hj hk)]
 unfold sgB
 apply decide_eq_decide.2
 split <;> omega
theorem row_eq {i j k : Nat} (hi : i < n + 2) (hj : j < i) (hk : k < j) : ∀ c, row155 ((tOf A).sub 0 0) i j k c = match c with
  | 0 => (i : Int) | 1 => j | 2 => k
  | 3 => sgB A i j k * (lpOf A).cx0 j k | 4 => sgB A i j k * (lpOf A).cx1 j k | 5 => sgB A i j k * (lpOf A).cx2 j k
  | 6 => sgB A i j k * (lpOf A).cx0 k i | 7 => sgB A i j k * (lpOf A).cx1 k i | 8 => sgB A i j k * (lpOf A).cx2 k i
  | 9 => sgB A i j k * (lpOf A).cx0 i j | 10 => sgB A i j k * (lpOf A).cx1 i j | 11 => sgB A i j k * (lpOf A).cx2 i j
  | 12 => sgB A i j k * (lpOf A).dt i j k
  | _ => 0 := by
 intro c
 have hj' : j < n + 2 := by omega
 have hk' : k < n + 2 := by omega
 have s1 := cx_small K hj' hk'
 have s2 := cx_small K hk' hi
 have s3 := cx_small K hi hj'
 match c with
 | 0 => rfl
 | 1 => rfl
 | 2 => rfl
 | 3 => simp only [row155, det_eq K hi hj' hk', cr_eq K hj' hk']; exact sg_eq K (by omega)
 | 4 => simp only [row155, det_eq K hi hj' hk', cr_eq K hj' hk']; exact sg_eq K (by omega)
 | 5 => simp only [row155, det_eq K hi hj' hk', cr_eq K hj' hk']; exact sg_eq K (by omega)
 | 6 => simp only [row155, det_eq K hi hj' hk', cr_eq K hk' hi]; exact sg_eq K (by omega)
 | 7 => simp only [row155, det_eq K hi hj' hk', cr_eq K hk' hi]; exact sg_eq K (by omega)
 | 8 => simp only [row155, det_eq K hi hj' hk', cr_eq K hk' hi]; exact sg_eq K (by omega)
 | 9 => simp only [row155, det_eq K hi hj' hk', cr_eq K hi hj']; exact sg_eq K (by omega)
 | 10 => simp only [row155, det_eq K hi hj' hk', cr_eq K hi hj']; exact sg_eq K (by omega)
 | 11 => simp only [row155, det_eq K hi hj' hk', cr_eq K hi hj']; exact sg_eq K (by omega)
 | 12 => simp only [row155, det_eq K hi hj' hk']; exact sg_eq K (dt_small K hi hj hk)
 | c + 13 => rfl
omit K in
theorem mem_L3 (D : Dat) (i j : Nat) (p : Nat × Nat × Nat) : ∀ m, p ∈ L3_155 D i j m ↔ ∃ k, k < m ∧ isB155 D i j k = true ∧ p = (i, j, k)
 | 0 => by simp [L3_155]
 | m + 1 => by
  simp only [L3_155, List.mem_append, mem_L3 D i j p m]
  constructor
  ·rintro (⟨k, h1, h2⟩ | h)
   ·exact ⟨k, by omega, h2⟩
   ·cases hb : isB155 D i j m
    ·rw [hb] at h; simp at h
    ·rw [hb] at h; simp at h; exact ⟨m, by omega, hb, h⟩
  ·rintro ⟨k, h1, h2, h3⟩
   rcases Nat.lt_or_ge k m with h | h
   ·exact .inl ⟨k, h, h2, h3⟩
   ·obtain rfl : k = m := by omega
    right; rw [h2]; simp [h3]
omit K in
theorem mem_L2 (D : Dat) (i : Nat) (p : Nat × Nat × Nat) : ∀ m, p ∈ L2_155 D i m ↔ ∃ j k, j < m ∧ k < j ∧ isB155 D i j k = true ∧ p = (i, j, k)
 | 0 => by simp [L2_155]
 | m + 1 => by
  simp only [L2_155, List.mem_append, mem_L2 D i p m, mem_L3]
  constructor
  ·rintro (⟨j, k, h1, h2⟩ | ⟨k, h1, h2⟩)
   ·exact ⟨j, k, by omega, h2⟩
   ·exact ⟨m, k, by omega, h1, h2⟩
  ·rintro ⟨j, k, h1, h2, h3⟩
   rcases Nat.lt_or_ge j m with h | h
   ·exact .inl ⟨j, k, h, h2, h3⟩
   ·obtain rfl : j = m := by omega
    exact .inr ⟨k, h2, h3⟩
omit K in
theorem mem_L1 (D : Dat) (p : Nat × Nat × Nat) : ∀ m, p ∈ L1_155 D m ↔ ∃ i j k, i < m ∧ j < i ∧ k < j ∧ isB155 D i j k = true ∧ p = (i, j, k)
 | 0 => by simp [L1_155]
 | m + 1 => by
  simp only [L1_155, List.mem_append, mem_L1 D p m, mem_L2]
  constructor
  ·rintro (⟨i, j, k, h1, h2⟩ | ⟨j, k, h1, h2⟩)
   ·exact ⟨i, j, k, by omega, h2⟩
   ·exact ⟨m, j, k, by omega, h1, h2⟩
  ·rintro ⟨i, j, k, h1, h2, h3⟩
   rcases Nat.lt_or_ge i m with h | h
   ·exact .inl ⟨i, j, k, h, h2, h3⟩
   ·obtain rfl : i = m := by omega
    exact .inr ⟨j, k, h2, h3⟩
theorem mem_all (p : Nat × Nat × Nat) : p ∈ all155 (tOf A) ↔ ∃ i j k, i < n + 2 ∧ j < i ∧ k < j ∧ (lpOf A).dt i j k ≠ 0 ∧ p = (i, j, k) := by
 unfold all155
 rw [mem_L1, tOf_n K]
 constructor
 ·rintro ⟨i, j, k, h1, h2, h3, h4, h5⟩
  rw [isB_eq K h1 h2 h3] at h4
  exact ⟨i, j, k, h1, h2, h3, of_decide_eq_true h4, h5⟩
 ·rintro ⟨i, j, k, h1, h2, h3, h4, h5⟩
  exact ⟨i, j, k, h1, h2, h3, by rw [isB_eq K h1 h2 h3]; exact decide_eq_true h4, h5⟩
theorem yielded {kk : Nat} (h : kk < N155 (tOf A)) : ∃ i j k, i < n + 2 ∧ j < i ∧ k < j ∧ (lpOf A).dt i j k ≠ 0 ∧ (all155 (tOf A))[kk]? = some (i, j, k) ∧ ∀ c, (Y155 (tOf A)).ii kk c = row155 ((tOf A).sub 0 0) i j k c := by
 have h : kk < (all155 (tOf A)).length := h
 obtain ⟨i, j, k, h1, h2, h3, h4, h5⟩ := (mem_all K _).1 (List.getElem_mem h)
 have e : (all155 (tOf A))[kk]? = some (i, j, k) := by rw [List.getElem?_eq_getElem h, h5]
 refine ⟨i, j, k, h1, h2, h3, h4, e, fun c => ?_⟩
 show rowAt155 ((tOf A).sub 0 0) (all155 (tOf A))[kk]? c = _
 rw [e]; rfl
theorem all_yielded {i j k : Nat} (hi : i < n + 2) (hj : j < i) (hk : k < j) (hd : (lpOf A).dt i j k ≠ 0) : ∃ kk, kk < N155 (tOf A) ∧ (all155 (tOf A))[kk]? = some (i, j, k) := by
 obtain ⟨kk, h, e⟩ := List.mem_iff_getElem.1 ((mem_all K (i, j, k)).2 ⟨i, j, k, hi, hj, hk, hd, rfl⟩)
 exact ⟨kk, h, by rw [List.getElem?_eq_getElem h, e]⟩
theorem ok_t : ok155 (tOf A) = true := by
 unfold ok155
 rw [tOf_n K]
 have := K.few
 exact decide_eq_true (by omega)
end
end Go.Proofs.Ytmndejpcpfkajaa
namespace Go.Proofs.Ytmndejpcpfkajaa
open Go Go.Sy Lin
set_option linter.unusedVariables false
set_option linter.unusedSimpArgs false
set_option linter.unusedSectionVars false
set_option maxRecDepth 100000
noncomputable def stepP {β : Type} (A : Dat) (x0 x1 x2 den most bden : Int) (yes : Int → Int → Int → Int → Int → Int → Int → Option β) (no : Option β) : Option β :=
 cond (n99 A (m139 x0 x1 x2 den).fst (m139 x0 x1 x2 den).snd.fst (m139 x0 x1 x2 den).snd.snd.fst (m139 x0 x1 x2 den).snd.snd.snd.fst (m139 x0 x1 x2 den).snd.snd.snd.snd.fst (m139 x0 x1 x2 den).snd.snd.snd.snd.snd 1)
  (cond (bif (bif (decide (0 ≤ m99 A (m139 x0 x1 x2 den).fst (m139 x0 x1 x2 den).snd.fst (m139 x0 x1 x2 den).snd.snd.fst (m139 x0 x1 x2 den).snd.snd.snd.fst (m139 x0 x1 x2 den).snd.snd.snd.snd.fst (m139 x0 x1 x2 den).snd.snd.snd.snd.snd 1)) then false else true) then true else (n114 (m99 A (m139 x0 x1 x2 den).fst (m139 x0 x1 x2 den).snd.fst (m139 x0 x1 x2 den).snd.snd.fst (m139 x0 x1 x2 den).snd.snd.snd.fst (m139 x0 x1 x2 den).snd.snd.snd.snd.fst (m139 x0 x1 x2 den).snd.snd.snd.snd.snd 1) den most bden))
   (cond (bif (decide (0 ≤ m99 A (m139 x0 x1 x2 den).fst (m139 x0 x1 x2 den).snd.fst (m139 x0 x1 x2 den).snd.snd.fst (m139 x0 x1 x2 den).snd.snd.snd.fst (m139 x0 x1 x2 den).snd.snd.snd.snd.fst (m139 x0 x1 x2 den).snd.snd.snd.snd.snd 1)) then (decide ((0 : Int) < (m114 (m99 A (m139 x0 x1 x2 den).fst (m139 x0 x1 x2 den).snd.fst (m139 x0 x1 x2 den).snd.snd.fst (m139 x0 x1 x2 den).snd.snd.snd.fst (m139 x0 x1 x2 den).snd.snd.snd.snd.fst (m139 x0 x1 x2 den).snd.snd.snd.snd.snd 1) den most bden))) else false)
    (yes (m139 x0 x1 x2 den).fst (m139 x0 x1 x2 den).snd.fst (m139 x0 x1 x2 den).snd.snd.fst (m139 x0 x1 x2 den).snd.snd.snd.fst (m139 x0 x1 x2 den).snd.snd.snd.snd.fst (m139 x0 x1 x2 den).snd.snd.snd.snd.snd (m99 A (m139 x0 x1 x2 den).fst (m139 x0 x1 x2 den).snd.fst (m139 x0 x1 x2 den).snd.snd.fst (m139 x0 x1 x2 den).snd.snd.snd.fst (m139 x0 x1 x2 den).snd.snd.snd.snd.fst (m139 x0 x1 x2 den).snd.snd.snd.snd.snd 1)) no) none) none
theorem pw111 {a b c : Int} (ha : -1000000000 ≤ a ∧ a ≤ 1000000000) (hb : -1000000000 ≤ b ∧ b ≤ 1000000000) (hc : -1000000000 ≤ c ∧ c ≤ 1000000000) :
  IntKind.i64.wrap (IntKind.i64.wrap (IntKind.i64.wrap (0 + IntKind.i64.wrap a) + IntKind.i64.wrap b) + IntKind.i64.wrap c) = a + b + c := by
 rw [wr (n := a) (by omega) (by omega), wr (n := b) (by omega) (by omega), wr (n := c) (by omega) (by omega), wr (n := 0 + a) (by omega) (by omega), wr (n := 0 + a + b) (by omega) (by omega), wr (by omega) (by omega)]; omega
theorem pw11 {a b : Int} (ha : -1000000000 ≤ a ∧ a ≤ 1000000000) (hb : -1000000000 ≤ b ∧ b ≤ 1000000000) :
  IntKind.i64.wrap (IntKind.i64.wrap (0 + IntKind.i64.wrap a) + IntKind.i64.wrap b) = a + b := by
 rw [wr (n := a) (by omega) (by omega), wr (n := b) (by omega) (by omega), wr (n := 0 + a) (by omega) (by omega), wr (by omega) (by omega)]; omega
theorem pw1 {a : Int} (ha : -1000000000 ≤ a ∧ a ≤ 1000000000) : IntKind.i64.wrap (0 + IntKind.i64.wrap a) = a := by
 rw [wr (n := a) (by omega) (by omega), wr (by omega) (by omega)]; omega
section
variable {A : Dat} {n : Nat} {d : Dat} {w O1 O2 H1 H2 : Int} (K : AskK A n d w O1 O2 H1 H2)
include K
theorem sgB_cases (i j k : Nat) : sgB A i j k = 1 ∨ sgB A i j k = -1 := by
 unfold sgB; split
 ·exact .inr rfl
 ·exact .inl rfl
theorem pr_small {i j k c : Nat} {x : Int} (hc : c < n) {M : Int} (hx : -M ≤ x ∧ x ≤ M) (hM : M ≤ 1000000) : (-(1000 * M) ≤ d.ii c 3 * (sgB A i j k * x) ∧ d.ii c 3 * (sgB A i j k * x) ≤ 1000 * M) := by
 have cs := K.cents c hc
 have : sgB A i j k * x = x ∨ sgB A i j k * x = -x := by
  rcases sgB_cases K i j k with h | h <;> rw [h] <;> omega
 have hy : -M ≤ sgB A i j k * x ∧ sgB A i j k * x ≤ M := by omega
 generalize sgB A i j k * x = y at hy
 rcases Int.le_total 0 y with h | h
 ·have := mulb cs.1 cs.2 h hy.2; omega
 ·have := mulb cs.1 cs.2 (show 0 ≤ -y by omega) (show -y ≤ M by omega)
  have e : d.ii c 3 * -y = -(d.ii c 3 * y) := Int.mul_neg _ _
  omega
theorem price_round {kk i j k : Nat} (hkk : kk < N155 (tOf A)) (hi : i < n + 2) (hj : j < i) (hk : k < j) (hY : ∀ c, (Y155 (tOf A)).ii kk c = row155 ((tOf A).sub 0 0) i j k c) (t18 : Dat) (p0 p1 p2 p3 p4 p5 : Int) (f : Nat) (B0 B1 B2 B3 B4 B5 most : Int) :
  l96_0 t18 A p0 p1 p2 p3 p4 p5 (Y155 (tOf A)) (f + 1) kk B0 B1 B2 B3 B4 B5 most =
   stepP A (sgB A i j k * (lpOf A).yv0 i j k) (sgB A i j k * (lpOf A).yv1 i j k) (sgB A i j k * (lpOf A).yv2 i j k) (sgB A i j k * (lpOf A).dt i j k) most B5
    (fun q0 q1 q2 q3 q4 q5 v => l96_0 t18 A p0 p1 p2 p3 p4 p5 (Y155 (tOf A)) f (kk + 1) q0 q1 q2 q3 q4 q5 v)
    (l96_0 t18 A p0 p1 p2 p3 p4 p5 (Y155 (tOf A)) f (kk + 1) B0 B1 B2 B3 B4 B5 most) := by
 have s1 := cx_small K (show j < n + 2 by omega) (show k < n + 2 by omega)
 have s2 := cx_small K (show k < n + 2 by omega) hi
 have s3 := cx_small K hi (show j < n + 2 by omega)
 have R := row_eq K hi hj hk
 have r0 : (Y155 (tOf A)).ii kk 0 = (i : Int) := by rw [hY]; exact R 0
 have r1 : (Y155 (tOf A)).ii kk 1 = (j : Int) := by rw [hY]; exact R 1
 have r2 : (Y155 (tOf A)).ii kk 2 = (k : Int) := by rw [hY]; exact R 2
 have r3 : (Y155 (tOf A)).ii kk 3 = sgB A i j k * (lpOf A).cx0 j k := by rw [hY]; exact R 3
 have r4 : (Y155 (tOf A)).ii kk 4 = sgB A i j k * (lpOf A).cx1 j k := by rw [hY]; exact R 4
 have r5 : (Y155 (tOf A)).ii kk 5 = sgB A i j k * (lpOf A).cx2 j k := by rw [hY]; exact R 5
 have r6 : (Y155 (tOf A)).ii kk 6 = sgB A i j k * (lpOf A).cx0 k i := by rw [hY]; exact R 6
 have r7 : (Y155 (tOf A)).ii kk 7 = sgB A i j k * (lpOf A).cx1 k i := by rw [hY]; exact R 7
 have r8 : (Y155 (tOf A)).ii kk 8 = sgB A i j k * (lpOf A).cx2 k i := by rw [hY]; exact R 8
 have r9 : (Y155 (tOf A)).ii kk 9 = sgB A i j k * (lpOf A).cx0 i j := by rw [hY]; exact R 9
 have r10 : (Y155 (tOf A)).ii kk 10 = sgB A i j k * (lpOf A).cx1 i j := by rw [hY]; exact R 10
 have r11 : (Y155 (tOf A)).ii kk 11 = sgB A i j k * (lpOf A).cx2 i j := by rw [hY]; exact R 11
 have r12 : (Y155 (tOf A)).ii kk 12 = sgB A i j k * (lpOf A).dt i j k := by rw [hY]; exact R 12
 generalize hσ : sgB A i j k = σ at *
 have y0 : σ * (lpOf A).yv0 i j k = (lpOf A).c i * (σ * (lpOf A).cx0 j k) + (lpOf A).c j * (σ * (lpOf A).cx0 k i) + (lpOf A).c k * (σ * (lpOf A).cx0 i j) := by unfold Lp.yv0; grind
 have y1 : σ * (lpOf A).yv1 i j k = (lpOf A).c i * (σ * (lpOf A).cx1 j k) + (lpOf A).c j * (σ * (lpOf A).cx1 k i) + (lpOf A).c k * (σ * (lpOf A).cx1 i j) := by unfold Lp.yv1; grind
 have y2 : σ * (lpOf A).yv2 i j k = (lpOf A).c i * (σ * (lpOf A).cx2 j k) + (lpOf A).c j * (σ * (lpOf A).cx2 k i) + (lpOf A).c k * (σ * (lpOf A).cx2 i j) := by unfold Lp.yv2; grind
 have P : ∀ {c : Nat} {x : Int} {M : Int}, c < n → (-M ≤ x ∧ x ≤ M) → M ≤ 1000000 → (-1000000000 ≤ d.ii c 3 * (σ * x) ∧ d.ii c 3 * (σ * x) ≤ 1000000000) := fun {c x M} hc hx hM => by
  have := pr_small K (i := i) (j := j) (k := k) hc hx hM
  rw [hσ] at this
  omega
 have z : ∀ {c : Nat}, n ≤ c → (lpOf A).c c = 0 := fun h => lp_c1 K h
 rcases Nat.lt_or_ge i n with hi' | hi'
 ·rcases Nat.lt_or_ge j n with hj' | hj'
  ·rcases Nat.lt_or_ge k n with hk' | hk'
   ·have e0 : IntKind.i64.wrap (IntKind.i64.wrap (IntKind.i64.wrap (0 + IntKind.i64.wrap (d.ii i 3 * (σ * (lpOf A).cx0 j k))) + IntKind.i64.wrap (d.ii j 3 * (σ * (lpOf A).cx0 k i))) + IntKind.i64.wrap (d.ii k 3 * (σ * (lpOf A).cx0 i j))) = σ * (lpOf A).yv0 i j k := by
     rw [pw111 (P hi' s1.1 (by omega)) (P hj' s2.1 (by omega)) (P hk' s3.1 (by omega)), y0, lp_c K hi', lp_c K hj', lp_c K hk']
    have e1 : IntKind.i64.wrap (IntKind.i64.wrap (IntKind.i64.wrap (0 + IntKind.i64.wrap (d.ii i 3 * (σ * (lpOf A).cx1 j k))) + IntKind.i64.wrap (d.ii j 3 * (σ * (lpOf A).cx1 k i))) + IntKind.i64.wrap (d.ii k 3 * (σ * (lpOf A).cx1 i j))) = σ * (lpOf A).yv1 i j k := by
     rw [pw111 (P hi' s1.2.1 (by omega)) (P hj' s2.2.1 (by omega)) (P hk' s3.2.1 (by omega)), y1, lp_c K hi', lp_c K hj', lp_c K hk']
    have e2 : IntKind.i64.wrap (IntKind.i64.wrap (IntKind.i64.wrap (0 + IntKind.i64.wrap (d.ii i 3 * (σ * (lpOf A).cx2 j k))) + IntKind.i64.wrap (d.ii j 3 * (σ * (lpOf A).cx2 k i))) + IntKind.i64.wrap (d.ii k 3 * (σ * (lpOf A).cx2 i j))) = σ * (lpOf A).yv2 i j k := by
     rw [pw111 (P hi' s1.2.2 (by omega)) (P hj' s2.2.2 (by omega)) (P hk' s3.2.2 (by omega)), y2, lp_c K hi', lp_c K hj', lp_c K hk']
    simp only [l96_0, r0, r1, r2, r3, r4, r5, r6, r7, r8, r9, r10, r11, r12, K.s0, K.s1, cdl hi', cdd hi', cdl hj', cdd hj', cdl hk', cdd hk', cond_true, cond_false, Int.toNat_natCast, t96_0_0, t96_0_1, t96_0_2, t96_0_3, t96_0_4, t96_0_5, t96_0_6, t96_0_7, t96_0_8, t96_0_9, t96_0_10, t96_0_11, t96_0_12, t96_0_13, t96_0_14, t96_0_15, t96_0_16, t96_0_17, t96_0_18, t96_0_19, t96_0_20, t96_0_21, t96_0_22, t96_0_23, t96_0_24, t96_0_25, t96_0_26, t96_0_27, t96_0_28, t96_0_29, t96_0_30, t96_0_31, t96_0_32, t96_0_33, t96_0_34, t96_0_35, t96_0_36, t96_0_37, t96_0_38, t96_0_39, t96_0_40, t96_0_41, t96_0_42, t96_0_43, t96_0_44, t96_0_45, t96_0_46, t96_0_47, t96_0_48, t96_0_49, t96_0_50, t96_0_51, t96_0_52, t96_0_53, t96_0_54, t96_0_55, t96_0_56, t96_0_57, t96_0_58, t96_0_59, t96_0_60, t96_0_61, t96_0_62, t96_0_63, t96_0_64, t96_0_65, t96_0_66, t96_0_67, t96_0_68, t96_0_69, t96_0_70, t96_0_71, t96_0_72, t96_0_73, t96_0_74, t96_0_75, t96_0_76, t96_0_77, t96_0_78, e0, e1, e2]
    rfl
   ·have e0 : IntKind.i64.wrap (IntKind.i64.wrap (0 + IntKind.i64.wrap (d.ii i 3 * (σ * (lpOf A).cx0 j k))) + IntKind.i64.wrap (d.ii j 3 * (σ * (lpOf A).cx0 k i))) = σ * (lpOf A).yv0 i j k := by
     rw [pw11 (P hi' s1.1 (by omega)) (P hj' s2.1 (by omega)), y0, lp_c K hi', lp_c K hj', z hk']; omega
    have e1 : IntKind.i64.wrap (IntKind.i64.wrap (0 + IntKind.i64.wrap (d.ii i 3 * (σ * (lpOf A).cx1 j k))) + IntKind.i64.wrap (d.ii j 3 * (σ * (lpOf A).cx1 k i))) = σ * (lpOf A).yv1 i j k := by
     rw [pw11 (P hi' s1.2.1 (by omega)) (P hj' s2.2.1 (by omega)), y1, lp_c K hi', lp_c K hj', z hk']; omega
    have e2 : IntKind.i64.wrap (IntKind.i64.wrap (0 + IntKind.i64.wrap (d.ii i 3 * (σ * (lpOf A).cx2 j k))) + IntKind.i64.wrap (d.ii j 3 * (σ * (lpOf A).cx2 k i))) = σ * (lpOf A).yv2 i j k := by
     rw [pw11 (P hi' s1.2.2 (by omega)) (P hj' s2.2.2 (by omega)), y2, lp_c K hi', lp_c K hj', z hk']; omega
    simp only [l96_0, r0, r1, r2, r3, r4, r5, r6, r7, r8, r9, r10, r11, r12, K.s0, K.s1, cdl hi', cdd hi', cdl hj', cdd hj', show decide ((k : Int) < (n : Int)) = false from decide_eq_false (by omega), cond_true, cond_false, Int.toNat_natCast, t96_0_0, t96_0_1, t96_0_2, t96_0_3, t96_0_4, t96_0_5, t96_0_6, t96_0_7, t96_0_8, t96_0_9, t96_0_10, t96_0_11, t96_0_12, t96_0_13, t96_0_14, t96_0_15, t96_0_16, t96_0_17, t96_0_18, t96_0_19, t96_0_20, t96_0_21, t96_0_22, t96_0_23, t96_0_24, t96_0_25, t96_0_26, t96_0_27, t96_0_28, t96_0_29, t96_0_30, t96_0_31, t96_0_32, t96_0_33, t96_0_34, t96_0_35, t96_0_36, t96_0_37, t96_0_38, t96_0_39, t96_0_40, t96_0_41, t96_0_42, t96_0_43, t96_0_44, t96_0_45, t96_0_46, t96_0_47, t96_0_48, t96_0_49, t96_0_50, t96_0_51, t96_0_52, t96_0_53, t96_0_54, t96_0_55, t96_0_56, t96_0_57, t96_0_58, t96_0_59, t96_0_60, t96_0_61, t96_0_62, t96_0_63, t96_0_64, t96_0_65, t96_0_66, t96_0_67, t96_0_68, t96_0_69, t96_0_70, t96_0_71, t96_0_72, t96_0_73, t96_0_74, t96_0_75, t96_0_76, t96_0_77, t96_0_78, e0, e1, e2]
    rfl
  ·rcases Nat.lt_or_ge k n with hk' | hk'
   ·have e0 : IntKind.i64.wrap (IntKind.i64.wrap (0 + IntKind.i64.wrap (d.ii i 3 * (σ * (lpOf A).cx0 j k))) + IntKind.i64.wrap (d.ii k 3 * (σ * (lpOf A).cx0 i j))) = σ * (lpOf A).yv0 i j k := by
     rw [pw11 (P hi' s1.1 (by omega)) (P hk' s3.1 (by omega)), y0, lp_c K hi', z hj', lp_c K hk']; omega
    have e1 : IntKind.i64.wrap (IntKind.i64.wrap (0 + IntKind.i64.wrap (d.ii i 3 * (σ * (lpOf A).cx1 j k))) + IntKind.i64.wrap (d.ii k 3 * (σ * (lpOf A).cx1 i j))) = σ * (lpOf A).yv1 i j k := by
     rw [pw11 (P hi' s1.2.1 (by omega)) (P hk' s3.2.1 (by omega)), y1, lp_c K hi', z hj', lp_c K hk']; omega
    have e2 : IntKind.i64.wrap (IntKind.i64.wrap (0 + IntKind.i64.wrap (d.ii i 3 * (σ * (lpOf A).cx2 j k))) + IntKind.i64.wrap (d.ii k 3 * (σ * (lpOf A).cx2 i j))) = σ * (lpOf A).yv2 i j k := by
     rw [pw11 (P hi' s1.2.2 (by omega)) (P hk' s3.2.2 (by omega)), y2, lp_c K hi', z hj', lp_c K hk']; omega
    simp only [l96_0, r0, r1, r2, r3, r4, r5, r6, r7, r8, r9, r10, r11, r12, K.s0, K.s1, cdl hi', cdd hi', show decide ((j : Int) < (n : Int)) = false from decide_eq_false (by omega), cdl hk', cdd hk', cond_true, cond_false, Int.toNat_natCast, t96_0_0, t96_0_1, t96_0_2, t96_0_3, t96_0_4, t96_0_5, t96_0_6, t96_0_7, t96_0_8, t96_0_9, t96_0_10, t96_0_11, t96_0_12, t96_0_13, t96_0_14, t96_0_15, t96_0_16, t96_0_17, t96_0_18, t96_0_19, t96_0_20, t96_0_21, t96_0_22, t96_0_23, t96_0_24, t96_0_25, t96_0_26, t96_0_27, t96_0_28, t96_0_29, t96_0_30, t96_0_31, t96_0_32, t96_0_33, t96_0_34, t96_0_35, t96_0_36, t96_0_37, t96_0_38, t96_0_39, t96_0_40, t96_0_41, t96_0_42, t96_0_43, t96_0_44, t96_0_45, t96_0_46, t96_0_47, t96_0_48, t96_0_49, t96_0_50, t96_0_51, t96_0_52, t96_0_53, t96_0_54, t96_0_55, t96_0_56, t96_0_57, t96_0_58, t96_0_59, t96_0_60, t96_0_61, t96_0_62, t96_0_63, t96_0_64, t96_0_65, t96_0_66, t96_0_67, t96_0_68, t96_0_69, t96_0_70, t96_0_71, t96_0_72, t96_0_73, t96_0_74, t96_0_75, t96_0_76, t96_0_77, t96_0_78, e0, e1, e2]
    rfl
   ·have e0 : IntKind.i64.wrap (0 + IntKind.i64.wrap (d.ii i 3 * (σ * (lpOf A).cx0 j k))) = σ * (lpOf A).yv0 i j k := by
     rw [pw1 (P hi' s1.1 (by omega)), y0, lp_c K hi', z hj', z hk']; omega
    have e1 : IntKind.i64.wrap (0 + IntKind.i64.wrap (d.ii i 3 * (σ * (lpOf A).cx1 j k))) = σ * (lpOf A).yv1 i j k := by
     rw [pw1 (P hi' s1.2.1 (by omega)), y1, lp_c K hi', z hj', z hk']; omega
    have e2 : IntKind.i64.wrap (0 + IntKind.i64.wrap (d.ii i 3 * (σ * (lpOf A).cx2 j k))) = σ * (lpOf A).yv2 i j k := by
     rw [pw1 (P hi' s1.2.2 (by omega)), y2, lp_c K hi', z hj', z hk']; omega
    simp only [l96_0, r0, r1, r2, r3, r4, r5, r6, r7, r8, r9, r10, r11, r12, K.s0, K.s1, cdl hi', cdd hi', show decide ((j : Int) < (n : Int)) = false from decide_eq_false (by omega), show decide ((k : Int) < (n : Int)) = false from decide_eq_false (by omega), cond_true, cond_false, Int.toNat_natCast, t96_0_0, t96_0_1, t96_0_2, t96_0_3, t96_0_4, t96_0_5, t96_0_6, t96_0_7, t96_0_8, t96_0_9, t96_0_10, t96_0_11, t96_0_12, t96_0_13, t96_0_14, t96_0_15, t96_0_16, t96_0_17, t96_0_18, t96_0_19, t96_0_20, t96_0_21, t96_0_22, t96_0_23, t96_0_24, t96_0_25, t96_0_26, t96_0_27, t96_0_28, t96_0_29, t96_0_30, t96_0_31, t96_0_32, t96_0_33, t96_0_34, t96_0_35, t96_0_36, t96_0_37, t96_0_38, t96_0_39, t96_0_40, t96_0_41, t96_0_42, t96_0_43, t96_0_44, t96_0_45, t96_0_46, t96_0_47, t96_0_48, t96_0_49, t96_0_50, t96_0_51, t96_0_52, t96_0_53, t96_0_54, t96_0_55, t96_0_56, t96_0_57, t96_0_58, t96_0_59, t96_0_60, t96_0_61, t96_0_62, t96_0_63, t96_0_64, t96_0_65, t96_0_66, t96_0_67, t96_0_68, t96_0_69, t96_0_70, t96_0_71, t96_0_72, t96_0_73, t96_0_74, t96_0_75, t96_0_76, t96_0_77, t96_0_78, e0, e1, e2]
    rfl
 ·rcases Nat.lt_or_ge j n with hj' | hj'
  ·rcases Nat.lt_or_ge k n with hk' | hk'
   ·have e0 : IntKind.i64.wrap (IntKind.i64.wrap (0 + IntKind.i64.wrap (d.ii j 3 * (σ * (lpOf A).cx0 k i))) + IntKind.i64.wrap (d.ii k 3 * (σ * (lpOf A).cx0 i j))) = σ * (lpOf A).yv0 i j k := by
     rw [pw11 (P hj' s2.1 (by omega)) (P hk' s3.1 (by omega)), y0, z hi', lp_c K hj', lp_c K hk']; omega
    have e1 : IntKind.i64.wrap (IntKind.i64.wrap (0 + IntKind.i64.wrap (d.ii j 3 * (σ * (lpOf A).cx1 k i))) + IntKind.i64.wrap (d.ii k 3 * (σ * (lpOf A).cx1 i j))) = σ * (lpOf A).yv1 i j k := by
     rw [pw11 (P hj' s2.2.1 (by omega)) (P hk' s3.2.1 (by omega)), y1, z hi', lp_c K hj', lp_c K hk']; omega
    have e2 : IntKind.i64.wrap (IntKind.i64.wrap (0 + IntKind.i64.wrap (d.ii j 3 * (σ * (lpOf A).cx2 k i))) + IntKind.i64.wrap (d.ii k 3 * (σ * (lpOf A).cx2 i j))) = σ * (lpOf A).yv2 i j k := by
     rw [pw11 (P hj' s2.2.2 (by omega)) (P hk' s3.2.2 (by omega)), y2, z hi', lp_c K hj', lp_c K hk']; omega
    simp only [l96_0, r0, r1, r2, r3, r4, r5, r6, r7, r8, r9, r10, r11, r12, K.s0, K.s1, show decide ((i : Int) < (n : Int)) = false from decide_eq_false (by omega), cdl hj', cdd hj', cdl hk', cdd hk', cond_true, cond_false, Int.toNat_natCast, t96_0_0, t96_0_1, t96_0_2, t96_0_3, t96_0_4, t96_0_5, t96_0_6, t96_0_7, t96_0_8, t96_0_9, t96_0_10, t96_0_11, t96_0_12, t96_0_13, t96_0_14, t96_0_15, t96_0_16, t96_0_17, t96_0_18, t96_0_19, t96_0_20, t96_0_21, t96_0_22, t96_0_23, t96_0_24, t96_0_25, t96_0_26, t96_0_27, t96_0_28, t96_0_29, t96_0_30, t96_0_31, t96_0_32, t96_0_33, t96_0_34, t96_0_35, t96_0_36, t96_0_37, t96_0_38, t96_0_39, t96_0_40, t96_0_41, t96_0_42, t96_0_43, t96_0_44, t96_0_45, t96_0_46, t96_0_47, t96_0_48, t96_0_49, t96_0_50, t96_0_51, t96_0_52, t96_0_53, t96_0_54, t96_0_55, t96_0_56, t96_0_57, t96_0_58, t96_0_59, t96_0_60, t96_0_61, t96_0_62, t96_0_63, t96_0_64, t96_0_65, t96_0_66, t96_0_67, t96_0_68, t96_0_69, t96_0_70, t96_0_71, t96_0_72, t96_0_73, t96_0_74, t96_0_75, t96_0_76, t96_0_77, t96_0_78, e0, e1, e2]
    rfl
   ·have e0 : IntKind.i64.wrap (0 + IntKind.i64.wrap (d.ii j 3 * (σ * (lpOf A).cx0 k i))) = σ * (lpOf A).yv0 i j k := by
     rw [pw1 (P hj' s2.1 (by omega)), y0, z hi', lp_c K hj', z hk']; omega
    have e1 : IntKind.i64.wrap (0 + IntKind.i64.wrap (d.ii j 3 * (σ * (lpOf A).cx1 k i))) = σ * (lpOf A).yv1 i j k := by
     rw [pw1 (P hj' s2.2.1 (by omega)), y1, z hi', lp_c K hj', z hk']; omega
    have e2 : IntKind.i64.wrap (0 + IntKind.i64.wrap (d.ii j 3 * (σ * (lpOf A).cx2 k i))) = σ * (lpOf A).yv2 i j k := by
     rw [pw1 (P hj' s2.2.2 (by omega)), y2, z hi', lp_c K hj', z hk']; omega
    simp only [l96_0, r0, r1, r2, r3, r4, r5, r6, r7, r8, r9, r10, r11, r12, K.s0, K.s1, show decide ((i : Int) < (n : Int)) = false from decide_eq_false (by omega), cdl hj', cdd hj', show decide ((k : Int) < (n : Int)) = false from decide_eq_false (by omega), cond_true, cond_false, Int.toNat_natCast, t96_0_0, t96_0_1, t96_0_2, t96_0_3, t96_0_4, t96_0_5, t96_0_6, t96_0_7, t96_0_8, t96_0_9, t96_0_10, t96_0_11, t96_0_12, t96_0_13, t96_0_14, t96_0_15, t96_0_16, t96_0_17, t96_0_18, t96_0_19, t96_0_20, t96_0_21, t96_0_22, t96_0_23, t96_0_24, t96_0_25, t96_0_26, t96_0_27, t96_0_28, t96_0_29, t96_0_30, t96_0_31, t96_0_32, t96_0_33, t96_0_34, t96_0_35, t96_0_36, t96_0_37, t96_0_38, t96_0_39, t96_0_40, t96_0_41, t96_0_42, t96_0_43, t96_0_44, t96_0_45, t96_0_46, t96_0_47, t96_0_48, t96_0_49, t96_0_50, t96_0_51, t96_0_52, t96_0_53, t96_0_54, t96_0_55, t96_0_56, t96_0_57, t96_0_58, t96_0_59, t96_0_60, t96_0_61, t96_0_62, t96_0_63, t96_0_64, t96_0_65, t96_0_66, t96_0_67, t96_0_68, t96_0_69, t96_0_70, t96_0_71, t96_0_72, t96_0_73, t96_0_74, t96_0_75, t96_0_76, t96_0_77, t96_0_78, e0, e1, e2]
    rfl
  ·rcases Nat.lt_or_ge k n with hk' | hk'
   ·have e0 : IntKind.i64.wrap (0 + IntKind.i64.wrap (d.ii k 3 * (σ * (lpOf A).cx0 i j))) = σ * (lpOf A).yv0 i j k := by
     rw [pw1 (P hk' s3.1 (by omega)), y0, z hi', z hj', lp_c K hk']; omega
    have e1 : IntKind.i64.wrap (0 + IntKind.i64.wrap (d.ii k 3 * (σ * (lpOf A).cx1 i j))) = σ * (lpOf A).yv1 i j k := by
     rw [pw1 (P hk' s3.2.1 (by omega)), y1, z hi', z hj', lp_c K hk']; omega
    have e2 : IntKind.i64.wrap (0 + IntKind.i64.wrap (d.ii k 3 * (σ * (lpOf A).cx2 i j))) = σ * (lpOf A).yv2 i j k := by
     rw [pw1 (P hk' s3.2.2 (by omega)), y2, z hi', z hj', lp_c K hk']; omega
    simp only [l96_0, r0, r1, r2, r3, r4, r5, r6, r7, r8, r9, r10, r11, r12, K.s0, K.s1, show decide ((i : Int) < (n : Int)) = false from decide_eq_false (by omega), show decide ((j : Int) < (n : Int)) = false from decide_eq_false (by omega), cdl hk', cdd hk', cond_true, cond_false, Int.toNat_natCast, t96_0_0, t96_0_1, t96_0_2, t96_0_3, t96_0_4, t96_0_5, t96_0_6, t96_0_7, t96_0_8, t96_0_9, t96_0_10, t96_0_11, t96_0_12, t96_0_13, t96_0_14, t96_0_15, t96_0_16, t96_0_17, t96_0_18, t96_0_19, t96_0_20, t96_0_21, t96_0_22, t96_0_23, t96_0_24, t96_0_25, t96_0_26, t96_0_27, t96_0_28, t96_0_29, t96_0_30, t96_0_31, t96_0_32, t96_0_33, t96_0_34, t96_0_35, t96_0_36, t96_0_37, t96_0_38, t96_0_39, t96_0_40, t96_0_41, t96_0_42, t96_0_43, t96_0_44, t96_0_45, t96_0_46, t96_0_47, t96_0_48, t96_0_49, t96_0_50, t96_0_51, t96_0_52, t96_0_53, t96_0_54, t96_0_55, t96_0_56, t96_0_57, t96_0_58, t96_0_59, t96_0_60, t96_0_61, t96_0_62, t96_0_63, t96_0_64, t96_0_65, t96_0_66, t96_0_67, t96_0_68, t96_0_69, t96_0_70, t96_0_71, t96_0_72, t96_0_73, t96_0_74, t96_0_75, t96_0_76, t96_0_77, t96_0_78, e0, e1, e2]
    rfl
   ·have e0 : (0 : Int) = σ * (lpOf A).yv0 i j k := by
     rw [y0, z hi', z hj', z hk']; omega
    have e1 : (0 : Int) = σ * (lpOf A).yv1 i j k := by
     rw [y1, z hi', z hj', z hk']; omega
    have e2 : (0 : Int) = σ * (lpOf A).yv2 i j k := by
     rw [y2, z hi', z hj', z hk']; omega
    simp only [l96_0, r0, r1, r2, r3, r4, r5, r6, r7, r8, r9, r10, r11, r12, K.s0, K.s1, show decide ((i : Int) < (n : Int)) = false from decide_eq_false (by omega), show decide ((j : Int) < (n : Int)) = false from decide_eq_false (by omega), show decide ((k : Int) < (n : Int)) = false from decide_eq_false (by omega), cond_true, cond_false, Int.toNat_natCast, t96_0_0, t96_0_1, t96_0_2, t96_0_3, t96_0_4, t96_0_5, t96_0_6, t96_0_7, t96_0_8, t96_0_9, t96_0_10, t96_0_11, t96_0_12, t96_0_13, t96_0_14, t96_0_15, t96_0_16, t96_0_17, t96_0_18, t96_0_19, t96_0_20, t96_0_21, t96_0_22, t96_0_23, t96_0_24, t96_0_25, t96_0_26, t96_0_27, t96_0_28, t96_0_29, t96_0_30, t96_0_31, t96_0_32, t96_0_33, t96_0_34, t96_0_35, t96_0_36, t96_0_37, t96_0_38, t96_0_39, t96_0_40, t96_0_41, t96_0_42, t96_0_43, t96_0_44, t96_0_45, t96_0_46, t96_0_47, t96_0_48, t96_0_49, t96_0_50, t96_0_51, t96_0_52, t96_0_53, t96_0_54, t96_0_55, t96_0_56, t96_0_57, t96_0_58, t96_0_59, t96_0_60, t96_0_61, t96_0_62, t96_0_63, t96_0_64, t96_0_65, t96_0_66, t96_0_67, t96_0_68, t96_0_69, t96_0_70, t96_0_71, t96_0_72, t96_0_73, t96_0_74, t96_0_75, t96_0_76, t96_0_77, t96_0_78, e0, e1, e2]
    rw [← e0, ← e1, ← e2]
    rfl
noncomputable def bv (A : Dat) (i j k : Nat) : Int := (lpOf A).H (sgB A i j k * (lpOf A).yv0 i j k) (sgB A i j k * (lpOf A).yv1 i j k) (sgB A i j k * (lpOf A).yv2 i j k) (sgB A i j k * (lpOf A).dt i j k)
noncomputable def bd (A : Dat) (i j k : Nat) : Int := sgB A i j k * (lpOf A).dt i j k
theorem bd_pos {i j k : Nat} (hi : i < n + 2) (hj : j < i) (hk : k < j) (h : (lpOf A).dt i j k ≠ 0) : 1 ≤ bd A i j k ∧ bd A i j k ≤ 1000000 := by
 have := dt_small K hi hj hk
 unfold bd sgB
 split <;> omega
def InW (W a b c e q : Int) : Prop := (1 ≤ q ∧ q ≤ 1000000) ∧ (-10000000000 ≤ W ∧ W ≤ 10000000000) ∧ (0 ≤ a ∧ a ≤ 10000000) ∧ (0 ≤ b ∧ b ≤ 10000000) ∧ (0 ≤ c ∧ c ≤ 10000000) ∧ (0 ≤ e ∧ e ≤ 10000000)
theorem value_i64 (W a b c e q times : Int) : m99 A W a b c e q times ≤ 9223372036854775807 := by
 have hn : n ≤ 9223372036854775807 := by have := K.few; omega
 simp only [m99, K.s0, K.s1, Nat.zero_add, Nat.reduceAdd, val_prog hn, Option.getD_some]
 refine (runs_i64 _ _ _ _ _ _ _ _ _ _ ?_).2
 generalize IntKind.i64.wrap _ - IntKind.i64.wrap (e * _) = y
 simp [IntKind.wrap, IntKind.bits, IntKind.signed]; omega
theorem proofOf_in {x0 x1 x2 q : Int} (h0 : -10000000000 ≤ x0 ∧ x0 ≤ 10000000000) (h1 : -10000000 ≤ x1 ∧ x1 ≤ 10000000) (h2 : -10000000 ≤ x2 ∧ x2 ≤ 10000000) (hq : 1 ≤ q ∧ q ≤ 1000000) :
  ∃ a b c e, m139 x0 x1 x2 q = (x0, a, b, c, e, q) ∧ InW x0 a b c e q ∧ a - b = x1 ∧ c - e = x2 ∧ (a = 0 ∨ b = 0) ∧ (c = 0 ∨ e = 0) := by
 refine ⟨_, _, _, _, rfl, ?_⟩
 have im : ∀ x : Int, imax 0 x = max 0 x := fun x => by unfold imax; split <;> omega
 rw [wr (n := 0 - x1) (by omega) (by omega), wr (n := 0 - x2) (by omega) (by omega), im, im, im, im]
 unfold InW
 omega
theorem stepP_eq {β : Type} {x0 x1 x2 q most bden : Int} (h0 : -10000000000 ≤ x0 ∧ x0 ≤ 10000000000) (h1 : -10000000 ≤ x1 ∧ x1 ≤ 10000000) (h2 : -10000000 ≤ x2 ∧ x2 ≤ 10000000) (hq : 1 ≤ q ∧ q ≤ 1000000)
  (hb : 1 ≤ bden ∧ bden ≤ 1000000) (hm : most ≤ 9223372036854775807) (yes : Int → Int → Int → Int → Int → Int → Int → Option β) (no : Option β) :
  ∃ a b c e, InW x0 a b c e q ∧ m99 A x0 a b c e q 1 = (lpOf A).H x0 x1 x2 q ∧
   ((0 ≤ (lpOf A).H x0 x1 x2 q ∧ most * q < (lpOf A).H x0 x1 x2 q * bden → stepP A x0 x1 x2 q most bden yes no = yes x0 a b c e q ((lpOf A).H x0 x1 x2 q)) ∧
    (¬ (0 ≤ (lpOf A).H x0 x1 x2 q ∧ most * q < (lpOf A).H x0 x1 x2 q * bden) → stepP A x0 x1 x2 q most bden yes no = no)) := by
 obtain ⟨a, b, c, e, hp, hi, hab, hce, za, zc⟩ := proofOf_in K h0 h1 h2 hq
 refine ⟨a, b, c, e, hi, ?_⟩
 obtain ⟨i1, i2, i3, i4, i5, i6⟩ := hi
 have hv := (value_le K (times := 1) (.inr rfl) i1 i2 i3 i4 i5 i6).2 za zc
 have hn := (value_spec K (times := 1) (.inr rfl) i1 i2 i3 i4 i5 i6).1
 rw [hab, hce, Int.one_mul] at hv
 refine ⟨hv, ?_⟩
 have hmx := value_i64 K x0 a b c e q 1
 unfold stepP
 simp only [hp, hn, cond_true]
 rw [hv] at hmx ⊢
 generalize (lpOf A).H x0 x1 x2 q = v at *
 by_cases hv0 : 0 ≤ v
 ·obtain ⟨c1, c2⟩ := compare_prog (n := v) (d := q) (m := most) (k := bden) hv0 (by omega) (by omega) (by omega) (by omega) (by omega) hm
  simp only [decide_eq_true hv0, c1, c2, cond_true, cond_false]
  constructor
  ·rintro ⟨_, h⟩
   rw [sgn_pos (by omega)]; rfl
  ·intro h
   have hle : v * bden ≤ most * q := by
    rcases Int.lt_or_le (most * q) (v * bden) with g | g
    ·exact absurd ⟨hv0, g⟩ h
    ·exact g
   have : ¬ 0 < sgn (v * bden - most * q) := by
    unfold sgn; split <;> (try split) <;> omega
   rw [decide_eq_false this]; rfl
 ·simp only [decide_eq_false hv0, cond_true, cond_false]
  exact ⟨fun h => absurd h.1 hv0, fun _ => trivial⟩
theorem yv_small {i j k : Nat} (hi : i < n + 2) (hj : j < i) (hk : k < j) :
  (-10000000000 ≤ sgB A i j k * (lpOf A).yv0 i j k ∧ sgB A i j k * (lpOf A).yv0 i j k ≤ 10000000000) ∧ (-10000000 ≤ sgB A i j k * (lpOf A).yv1 i j k ∧ sgB A i j k * (lpOf A).yv1 i j k ≤ 10000000) ∧ (-10000000 ≤ sgB A i j k * (lpOf A).yv2 i j k ∧ sgB A i j k * (lpOf A).yv2 i j k ≤ 10000000) := by
 have s1 := cx_small K (show j < n + 2 by omega) (show k < n + 2 by omega)
 have s2 := cx_small K (show k < n + 2 by omega) hi
 have s3 := cx_small K hi (show j < n + 2 by omega)
 have cb : ∀ {c : Nat}, c < n + 2 → 0 ≤ (lpOf A).c c ∧ (lpOf A).c c ≤ 1000 := fun {c} hc => by
  rcases Nat.lt_or_ge c n with h | h
  ·rw [lp_c K h]; exact K.cents c h
  ·rw [lp_c1 K h]; omega
 have ci := cb hi
 have cj := cb (show j < n + 2 by omega)
 have ck := cb (show k < n + 2 by omega)
 have pb : ∀ {c x M : Int}, 0 ≤ c ∧ c ≤ 1000 → -M ≤ x ∧ x ≤ M → -(1000 * M) ≤ c * x ∧ c * x ≤ 1000 * M := fun {c x M} hc hx => by
  rcases Int.le_total 0 x with h | h
  ·have := mulb hc.1 hc.2 h hx.2; omega
  ·have := mulb hc.1 hc.2 (show 0 ≤ -x by omega) (show -x ≤ M by omega)
   have e : c * -x = -(c * x) := Int.mul_neg _ _
   omega
 have a1 := pb ci s1.1
 have a2 := pb cj s2.1
 have a3 := pb ck s3.1
 have b1 := pb ci s1.2.1
 have b2 := pb cj s2.2.1
 have b3 := pb ck s3.2.1
 have c1 := pb ci s1.2.2
 have c2 := pb cj s2.2.2
 have c3 := pb ck s3.2.2
 unfold Lp.yv0 Lp.yv1 Lp.yv2
 rcases sgB_cases K i j k with h | h <;> rw [h] <;> omega
theorem price_loop (p0 p1 p2 p3 p4 p5 : Int) : ∀ (f kk : Nat) (B0 B1 B2 B3 B4 B5 most : Int), kk + f = N155 (tOf A) → InW B0 B1 B2 B3 B4 B5 → m99 A B0 B1 B2 B3 B4 B5 1 = most → 0 ≤ most →
  (∀ q i j k, q < kk → (all155 (tOf A))[q]? = some (i, j, k) → bv A i j k * B5 ≤ most * bd A i j k) →
  ∃ C0 C1 C2 C3 C4 C5 m, l96_0 (tOf A) A p0 p1 p2 p3 p4 p5 (Y155 (tOf A)) f kk B0 B1 B2 B3 B4 B5 most = some (C0, C1, C2, C3, C4, C5, m) ∧ InW C0 C1 C2 C3 C4 C5 ∧ m99 A C0 C1 C2 C3 C4 C5 1 = m ∧ 0 ≤ m ∧
   ∀ q i j k, q < N155 (tOf A) → (all155 (tOf A))[q]? = some (i, j, k) → bv A i j k * C5 ≤ m * bd A i j k
 | 0, kk, B0, B1, B2, B3, B4, B5, most, hN, hW, hm, h0, hall => by
  obtain rfl : kk = N155 (tOf A) := by omega
  exact ⟨B0, B1, B2, B3, B4, B5, most, rfl, hW, hm, h0, hall⟩
 | f + 1, kk, B0, B1, B2, B3, B4, B5, most, hN, hW, hm, h0, hall => by
  obtain ⟨i, j, k, hi, hj, hk, hd, he, hY⟩ := yielded K (show kk < N155 (tOf A) by omega)
  rw [price_round K (show kk < N155 (tOf A) by omega) hi hj hk hY]
  have hq : 1 ≤ sgB A i j k * (lpOf A).dt i j k ∧ sgB A i j k * (lpOf A).dt i j k ≤ 1000000 := bd_pos K hi hj hk hd
  have hq2 := bd_pos K hi hj hk hd
  obtain ⟨y0, y1, y2⟩ := yv_small K hi hj hk
  have hm1 : most ≤ 9223372036854775807 := by rw [← hm]; exact value_i64 K _ _ _ _ _ _ _
  obtain ⟨a, b, c, e, hin, hv, hyes, hno⟩ := stepP_eq K y0 y1 y2 hq hW.1 hm1
   (fun q0 q1 q2 q3 q4 q5 v => l96_0 (tOf A) A p0 p1 p2 p3 p4 p5 (Y155 (tOf A)) f (kk + 1) q0 q1 q2 q3 q4 q5 v)
   (l96_0 (tOf A) A p0 p1 p2 p3 p4 p5 (Y155 (tOf A)) f (kk + 1) B0 B1 B2 B3 B4 B5 most)
  have hb5 := hW.1.1
  change (0 ≤ bv A i j k ∧ most * bd A i j k < bv A i j k * B5 → _) at hyes
  change (¬ (0 ≤ bv A i j k ∧ most * bd A i j k < bv A i j k * B5) → _) at hno
  by_cases hc : 0 ≤ bv A i j k ∧ most * bd A i j k < bv A i j k * B5
  ·rw [hyes hc]
   refine price_loop p0 p1 p2 p3 p4 p5 f (kk + 1) _ _ _ _ _ _ _ (by omega) hin hv hc.1 fun q i' j' k' hqk hq' => ?_
   show bv A i' j' k' * bd A i j k ≤ bv A i j k * bd A i' j' k'
   rcases Nat.lt_or_ge q kk with g | g
   ·have h1 := hall q i' j' k' g hq'
    obtain ⟨i2, j2, k2, u1, u2, u3, u4, u5, _⟩ := yielded K (show q < N155 (tOf A) by omega)
    rw [hq'] at u5
    simp only [Option.some.injEq, Prod.mk.injEq] at u5
    obtain ⟨rfl, rfl, rfl⟩ := u5
    have hp := bd_pos K u1 u2 u3 u4
    have m1 : bv A i' j' k' * B5 * bd A i j k ≤ most * bd A i' j' k' * bd A i j k := Int.mul_le_mul_of_nonneg_right h1 (by omega)
    have m2 : most * bd A i j k * bd A i' j' k' ≤ bv A i j k * B5 * bd A i' j' k' := Int.mul_le_mul_of_nonneg_right (by omega) (by omega)
    refine Int.le_of_mul_le_mul_right ?_ (show 0 < B5 by omega)
    have e1 : bv A i' j' k' * bd A i j k * B5 = bv A i' j' k' * B5 * bd A i j k := by grind
    have e2 : bv A i j k * bd A i' j' k' * B5 = bv A i j k * B5 * bd A i' j' k' := by grind
    have e3 : most * bd A i' j' k' * bd A i j k = most * bd A i j k * bd A i' j' k' := by grind
    omega
   ·obtain rfl : q = kk := by omega
    rw [he] at hq'
    simp only [Option.some.injEq, Prod.mk.injEq] at hq'
    obtain ⟨rfl, rfl, rfl⟩ := hq'
    exact Int.le_refl _
  ·rw [hno hc]
   refine price_loop p0 p1 p2 p3 p4 p5 f (kk + 1) _ _ _ _ _ _ _ (by omega) hW hm h0 fun q i' j' k' hqk hq' => ?_
   rcases Nat.lt_or_ge q kk with g | g
   ·exact hall q i' j' k' g hq'
   ·obtain rfl : q = kk := by omega
    rw [he] at hq'
    simp only [Option.some.injEq, Prod.mk.injEq] at hq'
    obtain ⟨rfl, rfl, rfl⟩ := hq'
    rcases Int.lt_or_le (most * bd A i j k) (bv A i j k * B5) with g | g
    ·have hneg : bv A i j k < 0 := by
      rcases Int.lt_or_le (bv A i j k) 0 with u | u
      ·exact u
      ·exact absurd ⟨u, g⟩ hc
     have := Int.mul_neg_of_neg_of_pos hneg (show 0 < B5 by omega)
     have := Int.mul_nonneg h0 (show 0 ≤ bd A i j k by omega)
     omega
    ·exact g
theorem prices_spec : n96 A = true ∧ ∃ W a b c e q m, m96 A = (W, a, b, c, e, q) ∧ InW W a b c e q ∧ m99 A W a b c e q 1 = m ∧ 0 ≤ m ∧
  ∀ i j k, i < n + 2 → j < i → k < j → (lpOf A).dt i j k ≠ 0 → bv A i j k * q ≤ m * bd A i j k := by
 have h0 : InW 0 0 0 0 0 1 := by unfold InW; omega
 have hs := value_spec K (W := 0) (a := 0) (b := 0) (c := 0) (e := 0) (den := 1) (times := 1) (.inr rfl) (by omega) (by omega) (by omega) (by omega) (by omega) (by omega)
 have hz : m99 A 0 0 0 0 0 1 1 = 0 := by
  rw [hs.2, sm_zero fun j hj => by
   have := K.cents j hj
   unfold vterm
   rw [show max 0 (0 + d.ii j 1 * (0 - 0) + d.ii j 2 * (0 - 0) - 1 * 1 * d.ii j 3) = 0 by simp; omega]
   simp]
  simp
 obtain ⟨C0, C1, C2, C3, C4, C5, m, hl, hin, hm, hm0, hall⟩ := price_loop K 0 0 0 0 0 0 (N155 (tOf A)) 0 0 0 0 0 0 1 0 (by omega) h0 hz (Int.le_refl 0) (fun q i j k hq => by omega)
 have ho : o96_0 (m135 ((m136 A).fst) ((m136 A).snd)) A 0 0 0 0 0 0 0 0 0 0 0 1 0 = some (C0, C1, C2, C3, C4, C5, m) := hl
 have hok : ok155 (m135 ((m136 A).fst) ((m136 A).snd)) = true := ok_t K
 simp only [n96, m96, hs.1, (columns_spec K).1, hz, ho, hok, Option.isSome_some, Option.getD_some]
 refine ⟨by trivial, C0, C1, C2, C3, C4, C5, m, rfl, hin, hm, hm0, fun i j k hi hj hk hd => ?_⟩
 obtain ⟨q, hq, he⟩ := all_yielded K hi hj hk hd
 exact hall q i j k hq he
end
end Go.Proofs.Ytmndejpcpfkajaa
namespace Go.Proofs.Ytmndejpcpfkajaa
open Go Go.Sy Lin
set_option linter.unusedVariables false
set_option linter.unusedSimpArgs false
set_option linter.unusedSectionVars false
set_option maxRecDepth 100000
section
variable {A : Dat} {n : Nat} {d : Dat} {w O1 O2 H1 H2 : Int} (K : AskK A n d w O1 O2 H1 H2)
include K
abbrev Wt : Type := Int × Int × Int × Int × Int × Int
noncomputable def hpP (A : Dat) (i k : Nat) : Int := (lpOf A).H ((lpOf A).cx0 i k) ((lpOf A).cx1 i k) ((lpOf A).cx2 i k) 0
noncomputable def hpN (A : Dat) (i k : Nat) : Int := (lpOf A).H (0 - (lpOf A).cx0 i k) (0 - (lpOf A).cx1 i k) (0 - (lpOf A).cx2 i k) 0
noncomputable def refI (A : Dat) (i k : Nat) : Option (Bool × Wt × Unit) :=
 cond (decide (0 < hpP A i k)) (some (true, m139 ((lpOf A).cx0 i k) ((lpOf A).cx1 i k) ((lpOf A).cx2 i k) 1, default))
  (cond (decide (0 < hpN A i k)) (some (true, m139 (0 - (lpOf A).cx0 i k) (0 - (lpOf A).cx1 i k) (0 - (lpOf A).cx2 i k) 1, default)) none)
noncomputable def refO (A : Dat) (i : Nat) : Option (Bool × Wt × Unit) := cond (first (refI A i) (false, default, ()) i 0).1 (some (true, (first (refI A i) (false, default, ()) i 0).2.1, default)) none
theorem weights0 {x0 x1 x2 : Int} (h0 : -1000000 ≤ x0 ∧ x0 ≤ 1000000) (h1 : -1000 ≤ x1 ∧ x1 ≤ 1000) (h2 : -1000 ≤ x2 ∧ x2 ≤ 1000) :
  ∃ a b c e, m139 x0 x1 x2 1 = (x0, a, b, c, e, 1) ∧ InW x0 a b c e 1 ∧ n99 A x0 a b c e 1 0 = true ∧ m99 A x0 a b c e 1 0 = (lpOf A).H x0 x1 x2 0 := by
 obtain ⟨a, b, c, e, hp, hi, hab, hce, za, zc⟩ := proofOf_in K (x0 := x0) (x1 := x1) (x2 := x2) (q := 1) (by omega) (by omega) (by omega) (by omega)
 obtain ⟨i1, i2, i3, i4, i5, i6⟩ := hi
 have hv := (value_le K (times := 0) (.inl rfl) i1 i2 i3 i4 i5 i6).2 za zc
 have hn := (value_spec K (times := 0) (.inl rfl) i1 i2 i3 i4 i5 i6).1
 rw [hab, hce, Int.zero_mul] at hv
 exact ⟨a, b, c, e, hp, ⟨i1, i2, i3, i4, i5, i6⟩, hn, hv⟩
theorem ref_inner {i : Nat} (hi : i < n + 2) (t13 : Int) :
  o95_2 A (n + 2) (m136 A).2 (i : Int) t13 (i : Int) (i : Int) 0 0 0 0 0 0 0 = some (first (refI A i) (false, default, ()) i 0) := by
 have few := K.few
 refine loop_first (n := i) (l := l95_2 A (n + 2) (m136 A).2 (i : Int) t13 (i : Int) (i : Int) 0 0 0 0 0 0) (by omega) (fun f k hk => ?_) (fun f => by simp only [l95_2, cdn]; rfl) i 0 _ (by omega) (by omega)
 have hk2 : k < n + 2 := by omega
 have cc : m138 ((m136 A).2.ii i 0) ((m136 A).2.ii i 1) ((m136 A).2.ii i 2) ((m136 A).2.ii k 0) ((m136 A).2.ii k 1) ((m136 A).2.ii k 2) = ((lpOf A).cx0 i k, (lpOf A).cx1 i k, (lpOf A).cx2 i k) := cr_eq K hi hk2
 obtain ⟨s0, s1, s2⟩ := cx_small K hi hk2
 obtain ⟨a, b, c, e, p1, _, p2, p3⟩ := weights0 K s0 s1 s2
 obtain ⟨a', b', c', e', q1, _, q2, q3⟩ := weights0 K (x0 := 0 - (lpOf A).cx0 i k) (x1 := 0 - (lpOf A).cx1 i k) (x2 := 0 - (lpOf A).cx2 i k) (by omega) (by omega) (by omega)
 change m99 A _ a b c e 1 0 = hpP A i k at p3
 change m99 A _ a' b' c' e' 1 0 = hpN A i k at q3
 have v0 : IntKind.i64.wrap (0 - (lpOf A).cx0 i k) = 0 - (lpOf A).cx0 i k := wr (by omega) (by omega)
 have v1 : IntKind.i64.wrap (0 - (lpOf A).cx1 i k) = 0 - (lpOf A).cx1 i k := wr (by omega) (by omega)
 have v2 : IntKind.i64.wrap (0 - (lpOf A).cx2 i k) = 0 - (lpOf A).cx2 i k := wr (by omega) (by omega)
 simp only [l95_2, cdl hk, cdd hi, cdd hk2, cond_true, Int.toNat_natCast, cc, p1, p2, p3, v0, v1, v2, q1, q2, q3, refI]
 cases decide (0 < hpP A i k)
 ·cases decide (0 < hpN A i k) <;> rfl
 ·rfl
theorem ref_outer : o95_0 A (n + 2) (m136 A).2 ((n + 2 : Nat) : Int) 0 0 0 0 0 0 0 = some (first (refO A) (false, default, ()) (n + 2) 0) := by
 have few := K.few
 refine loop_first (n := n + 2) (l := l95_0 A (n + 2) (m136 A).2 ((n + 2 : Nat) : Int) 0 0 0 0 0 0) (by omega) (fun f i hi => ?_) (fun f => by simp only [l95_0, cdn]; rfl) (n + 2) 0 _ (by omega) (by omega)
 simp only [l95_0, cdl hi, cond_true, ref_inner K hi, Option.isSome_some, Option.getD_some, refO]
 cases (first (refI A i) (false, default, ()) i 0).1 <;> rfl
theorem refusal_spec : n95 A = true ∧ ∃ W a b c e q, m95 A = (W, a, b, c, e, q) ∧ InW W a b c e q ∧
  ((∃ i k, i < n + 2 ∧ k < i ∧ (0 < hpP A i k ∨ 0 < hpN A i k)) → 0 < m99 A W a b c e q 0) := by
 obtain ⟨c1, c2, _⟩ := columns_spec K
 have ho := ref_outer K
 simp only [n95, m95, c1, c2, ho, Option.isSome_some, Option.getD_some]
 refine ⟨by trivial, ?_⟩
 -- what a found one is
 have found : ∀ i b, i < n + 2 → refO A i = some b → b.1 = true ∧ ∃ W a b' c e, b.2.1 = (W, a, b', c, e, 1) ∧ InW W a b' c e 1 ∧ 0 < m99 A W a b' c e 1 0 := by
  intro i b hi hb
  unfold refO at hb
  rcases first_cases (g := refI A i) (e := (false, (default : Wt), ())) i 0 with ⟨k, r, _, hk, hg, _, hr⟩ | ⟨_, hr⟩
  ·rw [hr] at hb
   have hk2 : k < n + 2 := by omega
   obtain ⟨s0, s1, s2⟩ := cx_small K hi hk2
   unfold refI at hg
   by_cases h1 : 0 < hpP A i k
   ·obtain ⟨a, b', c, e, p1, p0, p2, p3⟩ := weights0 K s0 s1 s2
    rw [decide_eq_true h1, cond_true, p1] at hg
    simp only [Option.some.injEq] at hg
    subst hg
    simp only [cond_true, Option.some.injEq] at hb
    subst hb
    exact ⟨rfl, _, a, b', c, e, rfl, p0, by rw [p3]; exact h1⟩
   ·by_cases h2 : 0 < hpN A i k
    ·obtain ⟨a, b', c, e, p1, p0, p2, p3⟩ := weights0 K (x0 := 0 - (lpOf A).cx0 i k) (x1 := 0 - (lpOf A).cx1 i k) (x2 := 0 - (lpOf A).cx2 i k) (by omega) (by omega) (by omega)
     rw [decide_eq_false h1, decide_eq_true h2, cond_true, cond_false, p1] at hg
     simp only [Option.some.injEq] at hg
     subst hg
     simp only [cond_true, Option.some.injEq] at hb
     subst hb
     exact ⟨rfl, _, a, b', c, e, rfl, p0, by rw [p3]; exact h2⟩
    ·rw [decide_eq_false h1, decide_eq_false h2] at hg
     cases hg
  ·rw [hr] at hb
   cases hb
 rcases first_cases (g := refO A) (e := (false, (default : Wt), ())) (n + 2) 0 with ⟨i, b, _, hi, hg, _, hr⟩ | ⟨hno, hr⟩
 ·obtain ⟨f1, W, a, b', c, e, f2, f3, f4⟩ := found i b (by omega) hg
  rw [hr, f1, f2, cond_true]
  exact ⟨W, a, b', c, e, 1, rfl, f3, fun _ => f4⟩
 ·rw [hr]
  refine ⟨0, 0, 0, 0, 0, 1, rfl, by unfold InW; omega, ?_⟩
  rintro ⟨i, k, hi, hk, hpos⟩
  exfalso
  have h1 := hno i (by omega) (by omega)
  unfold refO at h1
  rcases first_cases (g := refI A i) (e := (false, (default : Wt), ())) i 0 with ⟨k', r, _, hk', hg, _, hr'⟩ | ⟨hno', hr'⟩
  ·have : r.1 = true := by
    unfold refI at hg
    cases h : decide (0 < hpP A i k') <;> rw [h] at hg
    ·cases h' : decide (0 < hpN A i k') <;> rw [h'] at hg
     ·cases hg
     ·simp only [cond_true, cond_false, Option.some.injEq] at hg; rw [← hg]
    ·simp only [cond_true, Option.some.injEq] at hg; rw [← hg]
   rw [hr', this] at h1
   cases h1
  ·have h2 := hno' k (by omega) (by omega)
   unfold refI at h2
   rcases hpos with h | h
   ·rw [decide_eq_true h] at h2; cases h2
   ·by_cases h3 : 0 < hpP A i k
    ·rw [decide_eq_true h3] at h2; cases h2
    ·rw [decide_eq_false h3, decide_eq_true h] at h2; cases h2
end
end Go.Proofs.Ytmndejpcpfkajaa

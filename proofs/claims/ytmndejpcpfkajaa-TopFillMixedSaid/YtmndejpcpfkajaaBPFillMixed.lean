/-
 The plain law of 'TopFillMixed': the law's model is true, and its need. Conditions: none.
-/
import Derived.Test.YtmndejpcpfkajaaBPDuals
namespace Go.Proofs.Ytmndejpcpfkajaa
open Go Go.Sy Lin
set_option linter.unusedVariables false
set_option linter.unusedSimpArgs false
set_option linter.unusedSectionVars false
set_option maxRecDepth 100000
namespace FM
theorem n18_val : n18 = true := by kernel_rfl
theorem m18_val : m18 = true := by kernel_rfl
theorem gcd_ok : ∀ (k : Nat) (a b : Int), 0 ≤ a → 0 ≤ b → 0 < a + b → b.natAbs < k → 0 < gcdF k a b ∧ (∃ x, 0 ≤ x ∧ gcdF k a b * x = a) ∧ (∃ y, 0 ≤ y ∧ gcdF k a b * y = b)
 | 0, _, _, _, _, _, h => absurd h (Nat.not_lt_zero _)
 | k + 1, a, b, ha, hb, hs, h => by
  by_cases h0 : b = 0
  ·subst h0
   have e : gcdF (k + 1) a 0 = a := by simp [gcdF]
   rw [e]
   exact ⟨by omega, ⟨1, by omega, by omega⟩, ⟨0, by omega, by omega⟩⟩
  ·have e : gcdF (k + 1) a b = gcdF k b (a.tmod b) := by simp [gcdF, h0]
   rw [e]
   have t0 : a.tmod b = a % b := Int.tmod_eq_emod_of_nonneg ha
   have t1 := Int.emod_nonneg a h0
   have t2 := Int.emod_lt_of_pos a (show 0 < b by omega)
   obtain ⟨g0, ⟨x, x0, hx⟩, ⟨y, y0, hy⟩⟩ := gcd_ok k b (a.tmod b) hb (by omega) (by omega) (by omega)
   refine ⟨g0, ⟨x * (a / b) + y, ?_, ?_⟩, ⟨x, x0, hx⟩⟩
   ·have := Int.mul_nonneg x0 (Int.ediv_nonneg ha hb)
    omega
   ·have := Int.mul_ediv_add_emod a b
    have hy2 := hy.trans t0
    rw [Int.mul_add, ← Int.mul_assoc, hx, hy2]; omega
theorem low_ok {x d : Int} (hx : 0 ≤ x) (hd : 0 < d) (hx1 : x ≤ 9000000000000000000) (hd1 : d ≤ 9000000000000000000) : n103 x d = true ∧ (bif decide (m103 x d = 0) then false else true) = true ∧
  ∃ a b g, 0 ≤ a ∧ 0 < b ∧ 0 < g ∧ g * a = x ∧ g * b = d ∧ IntKind.i64.wrap (x.tdiv (m103 x d)) = a ∧ IntKind.i64.wrap (d.tdiv (m103 x d)) = b := by
 have hn : d.natAbs < 9223372036854775809 := by omega
 obtain ⟨g0, ⟨a, a0, ha⟩, ⟨b, b0, hb⟩⟩ := gcd_ok 9223372036854775809 x d hx (by omega) (by omega) hn
 have hm : m103 x d = gcdF 9223372036854775809 x d := rfl
 rw [← hm] at g0 ha hb
 generalize m103 x d = g at *
 have q1 : x.tdiv g = a := by rw [← ha]; exact Int.mul_tdiv_cancel_left _ (by omega)
 have q2 : d.tdiv g = b := by rw [← hb]; exact Int.mul_tdiv_cancel_left _ (by omega)
 have m1 : 1 * a ≤ g * a := Int.mul_le_mul_of_nonneg_right (by omega) a0
 have m2 : 1 * b ≤ g * b := Int.mul_le_mul_of_nonneg_right (by omega) b0
 have bp : 0 < b := by
  rcases Int.lt_or_eq_of_le b0 with h | h
  ·exact h
  ·rw [← h] at hb; omega
 refine ⟨decide_eq_true hn, by rw [decide_eq_false (by omega)]; rfl, a, b, g, a0, bp, g0, ha, hb, ?_, ?_⟩
 ·rw [q1]; exact wr (by omega) (by omega)
 ·rw [q2]; exact wr (by omega) (by omega)
structure Pts (n : Nat) (d : Dat) : Prop where
 few : n ≤ 12
 gas : ∀ i, i < n → (0 ≤ d.ii i 0 ∧ d.ii i 0 ≤ 1000) ∧ (0 ≤ d.ii i 1 ∧ d.ii i 1 ≤ 1000) ∧ d.ii i 0 + d.ii i 1 ≤ 1000
 amt : ∀ i, i < n → 0 ≤ d.ii i 2 ∧ d.ii i 2 ≤ 1000000000
theorem sm_nonneg {f : Nat → Int} {B : Int} (hB : 0 ≤ B) : ∀ n, (∀ i, i < n → 0 ≤ f i ∧ f i ≤ B) → 0 ≤ sm f n ∧ sm f n ≤ (n : Int) * B
 | 0, _ => by simp [sm]
 | n + 1, h => by
  have ih := sm_nonneg hB n fun i hi => h i (by omega)
  have := h n (by omega)
  have e : ((n + 1 : Nat) : Int) * B = (n : Int) * B + B := by push_cast; rw [Int.add_mul]; omega
  rw [e]; simp only [sm]; omega
section
variable {n : Nat} {d : Dat} (P : Pts n d)
include P
theorem part_bnd {i : Nat} (hi : i < n) : (0 ≤ d.ii i 0 * d.ii i 2 ∧ d.ii i 0 * d.ii i 2 ≤ 1000000000000) ∧ (0 ≤ d.ii i 1 * d.ii i 2 ∧ d.ii i 1 * d.ii i 2 ≤ 1000000000000) ∧ (0 ≤ (1000 - d.ii i 0 - d.ii i 1) * d.ii i 2 ∧ (1000 - d.ii i 0 - d.ii i 1) * d.ii i 2 ≤ 1000000000000) := by
 obtain ⟨g1, g2, g3⟩ := P.gas i hi
 obtain ⟨a1, a2⟩ := P.amt i hi
 have x := mulb g1.1 g1.2 a1 a2
 have y := mulb g2.1 g2.2 a1 a2
 have z := mulb (show 0 ≤ 1000 - d.ii i 0 - d.ii i 1 by omega) (show 1000 - d.ii i 0 - d.ii i 1 ≤ 1000 by omega) a1 a2
 omega
theorem sums_bnd (i : Nat) (hi : i ≤ n) : (0 ≤ sm (fun i => d.ii i 2) i ∧ sm (fun i => d.ii i 2) i ≤ 12000000000) ∧ (0 ≤ sm (fun i => d.ii i 0 * d.ii i 2) i ∧ sm (fun i => d.ii i 0 * d.ii i 2) i ≤ 12000000000000) ∧
  (0 ≤ sm (fun i => d.ii i 1 * d.ii i 2) i ∧ sm (fun i => d.ii i 1 * d.ii i 2) i ≤ 12000000000000) ∧ (0 ≤ sm (fun i => (1000 - d.ii i 0 - d.ii i 1) * d.ii i 2) i ∧ sm (fun i => (1000 - d.ii i 0 - d.ii i 1) * d.ii i 2) i ≤ 12000000000000) := by
 have few := P.few
 have b := fun j (hj : j < i) => part_bnd P (show j < n by omega)
 have k0 := sm_nonneg (f := fun i => d.ii i 2) (B := 1000000000) (by omega) i fun j hj => P.amt j (by omega)
 have k1 := sm_nonneg (f := fun i => d.ii i 0 * d.ii i 2) (B := 1000000000000) (by omega) i fun j hj => (b j hj).1
 have k2 := sm_nonneg (f := fun i => d.ii i 1 * d.ii i 2) (B := 1000000000000) (by omega) i fun j hj => (b j hj).2.1
 have k3 := sm_nonneg (f := fun i => (1000 - d.ii i 0 - d.ii i 1) * d.ii i 2) (B := 1000000000000) (by omega) i fun j hj => (b j hj).2.2
 omega
theorem sum_run (b0 b1 b2 b3 : Int) : ∀ (k i f : Nat), i + k = n → k < f → l102_0 n d (n : Int) b0 b1 b2 b3 f (i : Int) (sm (fun i => d.ii i 2) i) (sm (fun i => d.ii i 0 * d.ii i 2) i) (sm (fun i => d.ii i 1 * d.ii i 2) i) (sm (fun i => (1000 - d.ii i 0 - d.ii i 1) * d.ii i 2) i) =
  some (sm (fun i => d.ii i 2) n, sm (fun i => d.ii i 0 * d.ii i 2) n, sm (fun i => d.ii i 1 * d.ii i 2) n, sm (fun i => (1000 - d.ii i 0 - d.ii i 1) * d.ii i 2) n)
 | 0, i, f, hi, hf => by
  obtain ⟨f, rfl⟩ : ∃ f', f = f' + 1 := ⟨f - 1, by omega⟩
  obtain rfl : i = n := by omega
  simp only [l102_0, cdn, cond_false]
 | k + 1, i, f, hi, hf => by
  obtain ⟨f, rfl⟩ : ∃ f', f = f' + 1 := ⟨f - 1, by omega⟩
  have hlt : i < n := by omega
  have few := P.few
  obtain ⟨g1, g2, g3⟩ := P.gas i hlt
  obtain ⟨a1, a2⟩ := P.amt i hlt
  obtain ⟨p1, p2, p3⟩ := part_bnd P hlt
  obtain ⟨s0, s1, s2, s3⟩ := sums_bnd P i (by omega)
  have ih := sum_run b0 b1 b2 b3 k (i + 1) f (by omega) (by omega)
  simp only [sm] at ih
  have w0 : IntKind.i64.wrap (IntKind.i64.wrap (1000 - d.ii i 0) - d.ii i 1) = 1000 - d.ii i 0 - d.ii i 1 := by rw [wr (n := 1000 - d.ii i 0) (by omega) (by omega), wr (by omega) (by omega)]
  simp only [l102_0, cdl hlt, cdd hlt, Int.toNat_natCast, m141, w0, wrS hlt (by omega), cond_true]
  rw [wr (n := d.ii i 0 * d.ii i 2) (by omega) (by omega), wr (n := d.ii i 1 * d.ii i 2) (by omega) (by omega), wr (n := (1000 - d.ii i 0 - d.ii i 1) * d.ii i 2) (by omega) (by omega)]
  rw [wr (n := sm (fun i => d.ii i 2) i + d.ii i 2) (by omega) (by omega), wr (n := sm (fun i => d.ii i 0 * d.ii i 2) i + d.ii i 0 * d.ii i 2) (by omega) (by omega), wr (n := sm (fun i => d.ii i 1 * d.ii i 2) i + d.ii i 1 * d.ii i 2) (by omega) (by omega), wr (n := sm (fun i => (1000 - d.ii i 0 - d.ii i 1) * d.ii i 2) i + (1000 - d.ii i 0 - d.ii i 1) * d.ii i 2) (by omega) (by omega)]
  exact ih
theorem sum_ok : n102 n d = true ∧ m102 n d = (sm (fun i => d.ii i 2) n, sm (fun i => d.ii i 0 * d.ii i 2) n, sm (fun i => d.ii i 1 * d.ii i 2) n, sm (fun i => (1000 - d.ii i 0 - d.ii i 1) * d.ii i 2) n) := by
 have o : o102_0 n d (n : Int) 0 0 0 0 0 0 0 0 0 = some (sm (fun i => d.ii i 2) n, sm (fun i => d.ii i 0 * d.ii i 2) n, sm (fun i => d.ii i 1 * d.ii i 2) n, sm (fun i => (1000 - d.ii i 0 - d.ii i 1) * d.ii i 2) n) := by
  obtain ⟨F, hF, e⟩ : ∃ F, n < F ∧ o102_0 n d (n : Int) 0 0 0 0 0 0 0 0 0 = l102_0 n d (n : Int) 0 0 0 0 F ((0 : Nat) : Int) 0 0 0 0 := ⟨_, by omega, rfl⟩
  rw [e]
  exact sum_run P 0 0 0 0 n 0 F (by omega) hF
 constructor
 ·simp only [n102, o]; rfl
 ·simp only [m102, o, Option.getD_some]
theorem check_ok (hS : sm (fun i => d.ii i 2) n ≠ 0) : n101 n d = true ∧ m101 n d = 0 := by
 have few := P.few
 have h : ∀ x y : Int, o132_0 2 (datS [SV.int IntKind.i64 x, SV.int IntKind.i64 y] 1) (↑(2 : Nat) : Int) 0 = cond (bif decide (x = 0) then false else true) (some (true, x, default)) (cond (bif decide (y = 0) then false else true) (some (true, y, default)) (some (false, default, ()))) := fun x y => by kernel_rfl
 have o : o101_0 n d d (n : Int) 0 = some (first (fun _ => none) (false, default, ()) n 0) := by
  obtain ⟨F, hF, e⟩ : ∃ F, n < F ∧ o101_0 n d d (n : Int) 0 = l101_0 n d d (n : Int) F ((0 : Nat) : Int) := ⟨_, by omega, rfl⟩
  rw [e]
  refine loop_first (n := n) (l := l101_0 n d d (n : Int)) (by omega) (fun f i hi => ?_) (fun f => by simp only [l101_0, cdn]; rfl) n 0 _ (by omega) hF
  obtain ⟨g1, g2, g3⟩ := P.gas i hi
  obtain ⟨e1, e2⟩ := e88 (d.ii i 0) (d.ii i 1)
  have z91 : m91 (d.ii i 0) (d.ii i 1) = 0 := by
   simp only [m91, m32_iff.2 g1, m32_iff.2 g2, wr (n := d.ii i 0 + d.ii i 1) (by omega) (by omega), decide_eq_false (show ¬ 1000 < d.ii i 0 + d.ii i 1 by omega)]; rfl
  have z133 : m133 (d.ii i 2) 0 1000000000 = 0 := by
   have : m154 (d.ii i 2) 0 1000000000 = m32 (d.ii i 2) 0 1000000000 := rfl
   simp only [m133, this, m32_iff.2 (P.amt i hi)]; rfl
  have a1 : n132 2 (datS [SV.int IntKind.i64 0, SV.int IntKind.i64 0] 1) = true := by simp only [n132, h]; rfl
  have a2 : m132 2 (datS [SV.int IntKind.i64 0, SV.int IntKind.i64 0] 1) = 0 := by simp only [m132, h]; rfl
  simp only [l101_0, cdl hi, cdd hi, Int.toNat_natCast, e1, e2, z91, z133, a1, a2, decide_true, cond_true, cond_false]
  rfl
 rw [first_none fun _ _ _ => rfl] at o
 have z : decide (12 < (n : Int)) = false := decide_eq_false (by omega)
 obtain ⟨s1, s2⟩ := sum_ok P
 constructor
 ·simp only [n101, z, o, s1, Option.getD_some, Option.isSome_some, cond_false]; rfl
 ·simp only [m101, z, o, s2, Option.getD_some, cond_false, decide_eq_false hS]
theorem mixed_ok (hS : sm (fun i => d.ii i 2) n ≠ 0) : n43 n d = true ∧ ((m43 n d).2.2.2.2.2.2 = 8 ∨
  ∃ a0 b0 g0 a1 b1 g1 a2 b2, m43 n d = (a0, b0, a1, b1, a2, b2, 0) ∧ 0 < g0 ∧ 0 < g1 ∧ g0 * a0 = sm (fun i => d.ii i 0 * d.ii i 2) n ∧ g0 * b0 = 1000 * sm (fun i => d.ii i 2) n ∧ g1 * a1 = sm (fun i => d.ii i 1 * d.ii i 2) n ∧ g1 * b1 = 1000 * sm (fun i => d.ii i 2) n ∧
   (0 ≤ a0 ∧ a0 ≤ 1000000000) ∧ (1 ≤ b0 ∧ b0 ≤ 1000000000) ∧ (0 ≤ a1 ∧ a1 ≤ 1000000000) ∧ (1 ≤ b1 ∧ b1 ≤ 1000000000) ∧ (0 ≤ a2 ∧ a2 ≤ 1000000000) ∧ (1 ≤ b2 ∧ b2 ≤ 1000000000)) := by
 obtain ⟨c1, c2⟩ := check_ok P hS
 obtain ⟨s1, s2⟩ := sum_ok P
 obtain ⟨q0, q1, q2, q3⟩ := sums_bnd P n (Nat.le_refl n)
 generalize sm (fun i => d.ii i 2) n = S at *
 generalize sm (fun i => d.ii i 0 * d.ii i 2) n = X at *
 generalize sm (fun i => d.ii i 1 * d.ii i 2) n = Y at *
 generalize sm (fun i => (1000 - d.ii i 0 - d.ii i 1) * d.ii i 2) n = Z at *
 have wD : IntKind.i64.wrap (1000 * S) = 1000 * S := wr (by omega) (by omega)
 obtain ⟨x1, x2, a0, b0, g0, xa, xb, xg, xe, xf, xh, xi⟩ := low_ok (x := X) (d := 1000 * S) q1.1 (by omega) (by omega) (by omega)
 obtain ⟨y1, y2, a1, b1, g1, ya, yb, yg, ye, yf, yh, yi⟩ := low_ok (x := Y) (d := 1000 * S) q2.1 (by omega) (by omega) (by omega)
 obtain ⟨z1, z2, a2, b2, g2, za, zb, zg, ze, zf, zh, zi⟩ := low_ok (x := Z) (d := 1000 * S) q3.1 (by omega) (by omega) (by omega)
 have bt : ∀ u : Bool, (bif (bif (bif u then false else true) then false else true) then true else true) = true := fun u => by cases u <;> rfl
 have bu : ∀ u v : Bool, (bif u then true else v) = false → u = false ∧ v = false := fun u v h => by cases u <;> cases v <;> simp_all
 constructor
 ·simp only [n43, c1, c2, s1, s2, wD, x1, x2, xh, xi, y1, y2, yh, yi, z1, z2, zh, zi, bt, decide_true, cond_true, cond_false]
  cases (bif decide (1000000000 < a0) then true else decide (1000000000 < b0)) <;> cases (bif decide (1000000000 < a1) then true else decide (1000000000 < b1)) <;> rfl
 ·have e : m43 n d = cond (bif decide (1000000000 < a0) then true else decide (1000000000 < b0)) (0, 0, 0, 0, 0, 0, 8) (cond (bif decide (1000000000 < a1) then true else decide (1000000000 < b1)) (0, 0, 0, 0, 0, 0, 8) (cond (bif decide (1000000000 < a2) then true else decide (1000000000 < b2)) (0, 0, 0, 0, 0, 0, 8) (a0, b0, a1, b1, a2, b2, 0))) := by
   simp only [m43, c2, s2, wD, xh, xi, yh, yi, zh, zi, decide_true, cond_true, cond_false]
  rw [e]
  cases h0 : (bif decide (1000000000 < a0) then true else decide (1000000000 < b0)) with
  | true => exact .inl rfl
  | false =>
   cases h1 : (bif decide (1000000000 < a1) then true else decide (1000000000 < b1)) with
   | true => exact .inl rfl
   | false =>
    cases h2 : (bif decide (1000000000 < a2) then true else decide (1000000000 < b2)) with
    | true => exact .inl rfl
    | false =>
     obtain ⟨u0, v0⟩ := bu _ _ h0
     obtain ⟨u1, v1⟩ := bu _ _ h1
     obtain ⟨u2, v2⟩ := bu _ _ h2
     have u0 := of_decide_eq_false u0; have v0 := of_decide_eq_false v0
     have u1 := of_decide_eq_false u1; have v1 := of_decide_eq_false v1
     have u2 := of_decide_eq_false u2; have v2 := of_decide_eq_false v2
     exact .inr ⟨a0, b0, g0, a1, b1, g1, a2, b2, rfl, xg, yg, xe, xf, ye, yf, ⟨xa, by omega⟩, ⟨by omega, by omega⟩, ⟨ya, by omega⟩, ⟨by omega, by omega⟩, ⟨za, by omega⟩, ⟨by omega, by omega⟩⟩
end
def Lst (B d bp : Dat) (i : Nat) (D : Dat) : Prop := (∀ q, q < 3 → ∀ c, D.ii q c = B.ii q c) ∧ ∀ j, j < i → D.ii (3 + j) 0 = d.ii j 1 ∧ D.ii (3 + j) 1 = d.ii j 2 ∧ D.ii (3 + j) 2 = bp.ii j 0
theorem lst_app {B d bp : Dat} {i : Nat} {D : Dat} (h : Lst B d bp i D) : Lst B d bp (i + 1) (D.app (3 + i) (datS [SV.int IntKind.i64 (d.ii i 1), SV.int IntKind.i64 (d.ii i 2), SV.int IntKind.i64 (bp.ii i 0)] 3)) := by
 refine ⟨fun q hq c => ?_, fun j hj => ?_⟩
 ·show cond (Nat.blt q (3 + i)) (D.ii q c) _ = _
  rw [blt_t (by omega)]; exact h.1 q hq c
 ·by_cases hji : j < i
  ·have e : Nat.blt (3 + j) (3 + i) = true := blt_t (by omega)
   obtain ⟨h1, h2, h3⟩ := h.2 j hji
   refine ⟨?_, ?_, ?_⟩
   ·show cond (Nat.blt (3 + j) (3 + i)) (D.ii (3 + j) 0) _ = _; rw [e]; exact h1
   ·show cond (Nat.blt (3 + j) (3 + i)) (D.ii (3 + j) 1) _ = _; rw [e]; exact h2
   ·show cond (Nat.blt (3 + j) (3 + i)) (D.ii (3 + j) 2) _ = _; rw [e]; exact h3
  ·obtain rfl : j = i := by omega
   have e : Nat.blt (3 + j) (3 + j) = false := blt_f (Nat.lt_irrefl _)
   refine ⟨?_, ?_, ?_⟩
   ·show cond (Nat.blt (3 + j) (3 + j)) _ _ = _; rw [e, Nat.sub_self]; rfl
   ·show cond (Nat.blt (3 + j) (3 + j)) _ _ = _; rw [e, Nat.sub_self]; rfl
   ·show cond (Nat.blt (3 + j) (3 + j)) _ _ = _; rw [e, Nat.sub_self]; rfl
theorem lst_run {n : Nat} {d bp B : Dat} (hn : n ≤ 1000) (b1 b2 b3 T ol oh hl hh : Int) (p : Nat) (dp : Dat) (dn den W a b c e q : Int) : ∀ (k i f : Nat) (D : Dat), i + k = n → k < f → Lst B d bp i D →
  ∃ D', l5_0 n d b1 b2 b3 T ol oh hl hh p dp dn n bp den W a b c e q f (3 + i) (i : Int) D = some (3 + n, 3 + n, D') ∧ Lst B d bp n D'
 | 0, i, f, D, hi, hf, h => by
  obtain ⟨f, rfl⟩ : ∃ f', f = f' + 1 := ⟨f - 1, by omega⟩
  obtain rfl : i = n := by omega
  exact ⟨D, by simp only [l5_0, cdn, cond_false], h⟩
 | k + 1, i, f, D, hi, hf, h => by
  obtain ⟨f, rfl⟩ : ∃ f', f = f' + 1 := ⟨f - 1, by omega⟩
  have hlt : i < n := by omega
  obtain ⟨D', h1, h2⟩ := lst_run hn b1 b2 b3 T ol oh hl hh p dp dn den W a b c e q k (i + 1) f _ (by omega) (by omega) (lst_app h)
  refine ⟨D', ?_, h2⟩
  simp only [l5_0, cdl hlt, cdd hlt, Int.toNat_natCast, decide_eq_true (show 3 + i + 1 ≤ 1073741824 by omega), wrS hlt (by omega), cond_true]
  exact h1
theorem lst_ok {n : Nat} {d bp B : Dat} (hn : n ≤ 1000) (b1 b2 b3 T ol oh hl hh : Int) (p : Nat) (dp : Dat) (dn den W a b c e q : Int) :
  ∃ D', o5_0 n d b1 b2 b3 T ol oh hl hh p dp dn n bp den W a b c e q 3 0 B = some (3 + n, 3 + n, D') ∧ Lst B d bp n D' := by
 have h := fun F (hF : n < F) => lst_run (n := n) (d := d) (bp := bp) (B := B) hn b1 b2 b3 T ol oh hl hh p dp dn den W a b c e q n 0 F B (by omega) hF ⟨fun _ _ _ => rfl, fun j hj => by omega⟩
 unfold o5_0
 refine h _ ?_
 generalize Int.toNat b1 = z0
 generalize Int.toNat b2 = z1
 generalize Int.toNat b3 = z2
 generalize Int.toNat T = z3
 generalize Int.toNat ol = z4
 generalize Int.toNat oh = z5
 generalize Int.toNat hl = z6
 generalize Int.toNat hh = z7
 generalize Int.toNat dn = z8
 generalize Int.toNat den = z9
 generalize Int.toNat W = z10
 generalize Int.toNat a = z11
 generalize Int.toNat b = z12
 generalize Int.toNat c = z13
 generalize Int.toNat e = z14
 generalize Int.toNat q = z15
 omega
theorem amt_ok {n : Nat} {d bp : Dat} (N : Nat) (hN : N ≤ 1000) (b1 b2 b3 T ol oh hl hh : Int) (p : Nat) (dp : Dat) (dn den W a b c e q : Int) (E : Dat) :
  o5_2 N n d b1 b2 b3 T ol oh hl hh p dp dn n bp den W a b c e q N E 0 = some (first (fun i => cond (decide (1000000000 < E.ii i 2)) (some (true, true, default)) none) (false, default, ()) N 0) := by
 have h := fun F (hF : N < F) => loop_first (n := N) (l := l5_2 N n d b1 b2 b3 T ol oh hl hh p dp dn n bp den W a b c e q N E) (g := fun i => cond (decide (1000000000 < E.ii i 2)) (some (true, true, default)) none) (e := (false, default, ())) (by omega) (fun f i hi => by
   simp only [l5_2, cdl hi, cdd hi, Int.toNat_natCast, decide_eq_true hi, cond_true]
   cases decide (1000000000 < E.ii i 2) <;> rfl) (fun f => by simp only [l5_2, cdn]; rfl) N 0 F (by omega) hF
 unfold o5_2
 refine h _ ?_
 generalize Int.toNat b1 = z0
 generalize Int.toNat b2 = z1
 generalize Int.toNat b3 = z2
 generalize Int.toNat T = z3
 generalize Int.toNat ol = z4
 generalize Int.toNat oh = z5
 generalize Int.toNat hl = z6
 generalize Int.toNat hh = z7
 generalize Int.toNat dn = z8
 generalize Int.toNat den = z9
 generalize Int.toNat W = z10
 generalize Int.toNat a = z11
 generalize Int.toNat b = z12
 generalize Int.toNat c = z13
 generalize Int.toNat e = z14
 generalize Int.toNat q = z15
 omega
theorem split3 {i n : Nat} (h : i < 3 + n) : i = 0 ∨ i = 1 ∨ i = 2 ∨ ∃ j, i = 3 + j ∧ j < n := by
 by_cases h3 : i < 3
 ·omega
 ·exact .inr (.inr (.inr ⟨i - 3, by omega, by omega⟩))
theorem sm_shift3 (f : Nat → Int) : ∀ n, sm f (3 + n) = f 0 + f 1 + f 2 + sm (fun j => f (3 + j)) n
 | 0 => by simp [sm]
 | n + 1 => by
  have ih := sm_shift3 f n
  show sm f (3 + n) + f (3 + n) = _ + (sm (fun j => f (3 + j)) n + f (3 + n))
  rw [ih]; omega
theorem range_ok {g a b X S lo hi : Int} (hg : 0 < g) (ha : g * a = X) (hb : g * b = 1000 * S) (h1 : S * lo ≤ X) (h2 : X ≤ S * hi) : lo * b ≤ 1000 * a ∧ 1000 * a ≤ hi * b := by
 constructor
 ·apply Int.le_of_mul_le_mul_left _ hg
  have e1 : g * (lo * b) = 1000 * (S * lo) := by grind
  have e2 : g * (1000 * a) = 1000 * X := by grind
  omega
 ·apply Int.le_of_mul_le_mul_left _ hg
  have e1 : g * (hi * b) = 1000 * (S * hi) := by grind
  have e2 : g * (1000 * a) = 1000 * X := by grind
  omega
theorem l5_4_all (n : Nat) (d : Dat) (b1 b2 b3 T ol oh hl hh : Int) (p : Nat) (dp : Dat) (dn : Int) (N : Nat) (bp : Dat) (den W a b c e q : Int) (L : Nat) (D : Dat) (x0 y0 x1 y1 x2 y2 : Int)
  (h0 : 0 ≤ x0 ∧ x0 ≤ 1000000000) (k0 : 1 ≤ y0 ∧ y0 ≤ 1000000000) (h1 : 0 ≤ x1 ∧ x1 ≤ 1000000000) (k1 : 1 ≤ y1 ∧ y1 ≤ 1000000000) (h2 : 0 ≤ x2 ∧ x2 ≤ 1000000000) (k2 : 1 ≤ y2 ∧ y2 ≤ 1000000000) :
  o5_4 n d b1 b2 b3 T ol oh hl hh p dp dn N bp den W a b c e q L D x0 y0 x1 y1 x2 y2 0 = some (false, default, ()) := by
 have i0 : intAt [SV.int IntKind.i64 x0, SV.int IntKind.i64 y0, SV.int IntKind.i64 x1, SV.int IntKind.i64 y1, SV.int IntKind.i64 x2, SV.int IntKind.i64 y2] 0 = x0 := rfl
 have i1 : intAt [SV.int IntKind.i64 x0, SV.int IntKind.i64 y0, SV.int IntKind.i64 x1, SV.int IntKind.i64 y1, SV.int IntKind.i64 x2, SV.int IntKind.i64 y2] 1 = y0 := rfl
 have i2 : intAt [SV.int IntKind.i64 x0, SV.int IntKind.i64 y0, SV.int IntKind.i64 x1, SV.int IntKind.i64 y1, SV.int IntKind.i64 x2, SV.int IntKind.i64 y2] 2 = x1 := rfl
 have i3 : intAt [SV.int IntKind.i64 x0, SV.int IntKind.i64 y0, SV.int IntKind.i64 x1, SV.int IntKind.i64 y1, SV.int IntKind.i64 x2, SV.int IntKind.i64 y2] 3 = y1 := rfl
 have i4 : intAt [SV.int IntKind.i64 x0, SV.int IntKind.i64 y0, SV.int IntKind.i64 x1, SV.int IntKind.i64 y1, SV.int IntKind.i64 x2, SV.int IntKind.i64 y2] 4 = x2 := rfl
 have i5 : intAt [SV.int IntKind.i64 x0, SV.int IntKind.i64 y0, SV.int IntKind.i64 x1, SV.int IntKind.i64 y1, SV.int IntKind.i64 x2, SV.int IntKind.i64 y2] 5 = y2 := rfl
 have w1 : IntKind.i64.wrap 1 = 1 := rfl
 have w2 : IntKind.i64.wrap 2 = 2 := rfl
 have w3 : IntKind.i64.wrap 3 = 3 := rfl
 have key : ∀ F, l5_4 n d b1 b2 b3 T ol oh hl hh p dp dn N bp den W a b c e q L D x0 y0 x1 y1 x2 y2 (F + 8) 0 = some (false, default, ()) := fun F => by
  simp only [l5_4, i0, i1, i2, i3, i4, i5, w1, w2, w3, m32_iff.2 h0, m32_iff.2 h1, m32_iff.2 h2, m32_iff.2 k0, m32_iff.2 k1, m32_iff.2 k2, decide_true, decide_false, and_self, and_true, true_and, cond_true, cond_false]
  simp [i0, i1, i2, i3, i4, i5, w1, w2, w3, m32_iff.2 h0, m32_iff.2 h1, m32_iff.2 h2, m32_iff.2 k0, m32_iff.2 k1, m32_iff.2 k2]
 unfold o5_4
 exact key _
theorem m42_zero {x d m k : Int} (hx : 0 ≤ x) (hx1 : x ≤ 9223372036854775807) (hd : 1 ≤ d ∧ d ≤ 1000000) (hk : 1 ≤ k ∧ k ≤ 1000000) (hm : m ≤ 9223372036854775807) (h : x * k = m * d) : n42 x d m k = true ∧ m42 x d m k = 0 := by
 have m0 : 0 ≤ m := by
  apply Decidable.byContradiction
  intro hh
  have a : 0 ≤ x * k := Int.mul_nonneg hx (by omega)
  have b : m * d ≤ (-1) * d := Int.mul_le_mul_of_nonneg_right (by omega) (by omega)
  omega
 obtain ⟨a, b⟩ := compare_ref (n := x) (d := d) (m := m) (k := k) hx (by omega) (by omega) (by omega) hx1 (by omega) hm (by omega)
 exact ⟨a, by rw [b, h, Int.sub_self]; rfl⟩
theorem m42_ge {x d m k : Int} (hx : 0 ≤ x) (hx1 : x ≤ 9223372036854775807) (hd : 1 ≤ d ∧ d ≤ 1000000) (hk : 1 ≤ k ∧ k ≤ 1000000) (hm0 : 0 ≤ m) (hm : m ≤ 9223372036854775807) (h : m * d ≤ x * k) : n42 x d m k = true ∧ ¬ m42 x d m k < 0 := by
 obtain ⟨a, b⟩ := compare_ref (n := x) (d := d) (m := m) (k := k) hx (by omega) (by omega) (by omega) hx1 (by omega) hm (by omega)
 refine ⟨a, ?_⟩
 rw [b]; unfold sgn; split <;> (try split) <;> omega
end FM
open FM
section
variable (n : Nat) (hn : n ≤ 9223372036854775807) (d : Dat) (hs : ∀ i, i < n → (d.ss i 0).size ≤ 9223372036854775807) (b1 b2 b3 T ol oh hl hh : Int) (p : Nat) (dp : Dat) (dn : Int)
include hn hs
set_option maxHeartbeats 4000000 in
theorem lawFillMixed : n5 n d b1 b2 b3 T ol oh hl hh p dp dn = true ∧ m5 n d b1 b2 b3 T ol oh hl hh p dp dn = true := by
 have a37 := l37_some n hn d b1 b2 b3 T ol oh hl hh
 have e36 : m36r n d b1 b2 b3 T ol oh hl hh = (n, b1, b2, b3, T, ol, oh, hl, hh, n, d) := by simp only [m36r, app_zero, Nat.zero_add]
 have e39 : ∀ p dp, m39 p dp = (p, dp) := fun p dp => by simp only [m39, app_zero, Nat.zero_add]
 obtain ⟨_, n34t, _⟩ := task_both n hn d hs b1 b2 b3 T ol oh hl hh
 have t0 : t5_0 n d b1 b2 b3 T ol oh hl hh p dp dn = m37 n d b1 b2 b3 T ol oh hl hh := rfl
 by_cases hG : m37 n d b1 b2 b3 T ol oh hl hh = true ∧ p ≤ 8
 rotate_left
 ·have hc : (bif (bif m37 n d b1 b2 b3 T ol oh hl hh then false else true) then true else decide (8 < (p : Int))) = true := by
   cases h : m37 n d b1 b2 b3 T ol oh hl hh
   ·rfl
   ·have : ¬ p ≤ 8 := fun k => hG ⟨h, k⟩
    have : decide (8 < (p : Int)) = true := decide_eq_true (by omega)
    rw [this]; rfl
  constructor
  ·simp only [n5, v5, n18_val, m18_val, t0, a37, hc, cond_true, cond_false]; rfl
  ·simp only [m5, w5, m18_val, t0, hc, cond_true, cond_false]
 obtain ⟨h37, hp8⟩ := hG
 have hp9 : decide (8 < (p : Int)) = false := decide_eq_false (by omega)
 by_cases h34 : m34 n d b1 b2 b3 T ol oh hl hh = 0
 rotate_left
 ·constructor
  ·simp only [n5, v5, n18_val, m18_val, t0, a37, h37, hp9, n34t, decide_eq_false h34, cond_true, cond_false]; rfl
  ·simp only [m5, w5, m18_val, t0, h37, hp9, decide_eq_false h34, cond_true, cond_false]
 have hn7 := light_few hn h37
 have R := rightK_of hn hs h34
 have K := askK_of R
 have a36 : n36r n d b1 b2 b3 T ol oh hl hh = true := by
  have : n ≤ 1073741824 := by omega
  simp [n36r, this]
 have a39 : ∀ p dp, p ≤ 1000 → n39 p dp = true := fun p dp h => by
  have : p ≤ 1073741824 := by omega
  simp [n39, this]
 have t1 : t5_1 n d b1 b2 b3 T ol oh hl hh p dp dn = true := a36
 have t2 : t5_2 n d b1 b2 b3 T ol oh hl hh p dp dn = n := by simp only [t5_2, e36]
 have t3 : t5_3 n d b1 b2 b3 T ol oh hl hh p dp dn = n := by simp only [t5_3, e36]
 have t4 : t5_4 n d b1 b2 b3 T ol oh hl hh p dp dn = d := by simp only [t5_4, e36]
 have t5 : t5_5 n d b1 b2 b3 T ol oh hl hh p dp dn = b1 := by simp only [t5_5, e36]
 have t6 : t5_6 n d b1 b2 b3 T ol oh hl hh p dp dn = b2 := by simp only [t5_6, e36]
 have t7 : t5_7 n d b1 b2 b3 T ol oh hl hh p dp dn = b3 := by simp only [t5_7, e36]
 have t8 : t5_8 n d b1 b2 b3 T ol oh hl hh p dp dn = T := by simp only [t5_8, e36]
 have t9 : t5_9 n d b1 b2 b3 T ol oh hl hh p dp dn = ol := by simp only [t5_9, e36]
 have t10 : t5_10 n d b1 b2 b3 T ol oh hl hh p dp dn = oh := by simp only [t5_10, e36]
 have t11 : t5_11 n d b1 b2 b3 T ol oh hl hh p dp dn = hl := by simp only [t5_11, e36]
 have t12 : t5_12 n d b1 b2 b3 T ol oh hl hh p dp dn = hh := by simp only [t5_12, e36]
 have z2 : decide (n ≤ n) = true := decide_eq_true (Nat.le_refl n)
 obtain ⟨n35t, f⟩ := fill_good n hn d hs b1 b2 b3 T ol oh hl hh h34
 obtain ⟨p1, p2, p3⟩ := good_plan n hn d hs b1 b2 b3 T ol oh hl hh p dp dn h34
 have k120 : decide ((12 : Int) = 0) = false := rfl
 have t14 : t5_14 n d b1 b2 b3 T ol oh hl hh p dp dn = (m38 n d b1 b2 b3 T ol oh hl hh p dp dn).2 := by simp only [t5_14, t2, t4, t5, t6, t7, t8, t9, t10, t11, t12, e39]
 rcases f with ⟨bp, den, W, a, b, c, e, q, f1, f2, f3, hP, hden, hcost⟩ | ⟨W, a, b, c, e, q, f1, _, f3⟩
 rotate_left
 ·have t13 : t5_13 n d b1 b2 b3 T ol oh hl hh p dp dn = 12 := by simp only [t5_13, t2, t4, t5, t6, t7, t8, t9, t10, t11, t12, f1]
  have hpl : ¬ (m38 n d b1 b2 b3 T ol oh hl hh p dp dn).2 = 0 := fun h0 => f3 _ _ (plan_is n hn d hs b1 b2 b3 T ol oh hl hh p dp dn h34 h0).2.2.1
  constructor
  ·simp only [n5, v5, n18_val, m18_val, t0, a37, h37, hp9, n34t, h34, t1, t2, t3, z2, t4, t5, t6, t7, t8, t9, t10, t11, t12, t13, n35t, e39, a39 p dp (by omega), p1, k120, decide_true, cond_true, cond_false]; rfl
  ·simp only [m5, w5, m18_val, t0, h37, hp9, h34, t13, t14, decide_eq_false hpl, k120, decide_true, cond_true, cond_false]
 have t13 : t5_13 n d b1 b2 b3 T ol oh hl hh p dp dn = 0 := by simp only [t5_13, t2, t4, t5, t6, t7, t8, t9, t10, t11, t12, f1]
 have t15 : t5_15 n d b1 b2 b3 T ol oh hl hh p dp dn = n := by simp only [t5_15, t2, t4, t5, t6, t7, t8, t9, t10, t11, t12, f1]
 have t16 : t5_16 n d b1 b2 b3 T ol oh hl hh p dp dn = bp := by simp only [t5_16, t2, t4, t5, t6, t7, t8, t9, t10, t11, t12, f1]
 have t17 : t5_17 n d b1 b2 b3 T ol oh hl hh p dp dn = den := by simp only [t5_17, t2, t4, t5, t6, t7, t8, t9, t10, t11, t12, f1]
 have t18 : t5_18 n d b1 b2 b3 T ol oh hl hh p dp dn = W := by simp only [t5_18, t2, t4, t5, t6, t7, t8, t9, t10, t11, t12, f1]
 have t19 : t5_19 n d b1 b2 b3 T ol oh hl hh p dp dn = a := by simp only [t5_19, t2, t4, t5, t6, t7, t8, t9, t10, t11, t12, f1]
 have t20 : t5_20 n d b1 b2 b3 T ol oh hl hh p dp dn = b := by simp only [t5_20, t2, t4, t5, t6, t7, t8, t9, t10, t11, t12, f1]
 have t21 : t5_21 n d b1 b2 b3 T ol oh hl hh p dp dn = c := by simp only [t5_21, t2, t4, t5, t6, t7, t8, t9, t10, t11, t12, f1]
 have t22 : t5_22 n d b1 b2 b3 T ol oh hl hh p dp dn = e := by simp only [t5_22, t2, t4, t5, t6, t7, t8, t9, t10, t11, t12, f1]
 have t23 : t5_23 n d b1 b2 b3 T ol oh hl hh p dp dn = q := by simp only [t5_23, t2, t4, t5, t6, t7, t8, t9, t10, t11, t12, f1]
 -- the found plan's and the proof's checks
 obtain ⟨i1, i2, i3, i4, i5, i6⟩ := f3
 obtain ⟨u1, u2, u3⟩ := good_plan n hn d hs b1 b2 b3 T ol oh hl hh n bp den h34
 obtain ⟨_, _, u4, _⟩ := plan_ok n hn d hs b1 b2 b3 T ol oh hl hh n bp den h34
 have u5 := (plan_spec K n bp den).2.2 rfl hden.1 hden.2 hP
 have u6 : m40 n d b1 b2 b3 T ol oh hl hh n bp den = ((lpOf (askD n d b1 b2 b3 T ol oh hl hh)).cost (xOf n d bp), 0) := by rw [← u4, u5]
 have u7 : m38 n d b1 b2 b3 T ol oh hl hh n bp den = ((lpOf (askD n d b1 b2 b3 T ol oh hl hh)).cost (xOf n d bp), 0) := by rw [u3, u6]
 have hcs := cost_small K hden hP
 obtain ⟨s1, _, _⟩ := good_proof n hn d hs b1 b2 b3 T ol oh hl hh W a b c e q h34
 have hmx := value_i64 K W a b c e q 1
 have hw := m98_in (show InW W a b c e q from ⟨i1, i2, i3, i4, i5, i6⟩)
 have s2 : m41 n d b1 b2 b3 T ol oh hl hh W a b c e q = (m99 (askD n d b1 b2 b3 T ol oh hl hh) W a b c e q 1, 0) := by
  obtain ⟨a1, a2, a3⟩ := task_good n hn d hs b1 b2 b3 T ol oh hl hh h34
  simp only [m41, a1, a3, hw, cond_false]
  rfl
 have t24 : t5_24 n d b1 b2 b3 T ol oh hl hh p dp dn = 0 := by simp only [t5_24, t2, t4, t5, t6, t7, t8, t9, t10, t11, t12, t15, t16, t17, e39, u7]
 have t26 : t5_26 n d b1 b2 b3 T ol oh hl hh p dp dn = (lpOf (askD n d b1 b2 b3 T ol oh hl hh)).cost (xOf n d bp) := by simp only [t5_26, t2, t4, t5, t6, t7, t8, t9, t10, t11, t12, t15, t16, t17, e39, u7]
 have t25 : t5_25 n d b1 b2 b3 T ol oh hl hh p dp dn = 0 := by simp only [t5_25, t2, t4, t5, t6, t7, t8, t9, t10, t11, t12, t18, t19, t20, t21, t22, t23, s2]
 have t27 : t5_27 n d b1 b2 b3 T ol oh hl hh p dp dn = m99 (askD n d b1 b2 b3 T ol oh hl hh) W a b c e q 1 := by simp only [t5_27, t2, t4, t5, t6, t7, t8, t9, t10, t11, t12, t18, t19, t20, t21, t22, t23, s2]
 have t28 : t5_28 n d b1 b2 b3 T ol oh hl hh p dp dn = (m38 n d b1 b2 b3 T ol oh hl hh p dp dn).1 := by simp only [t5_28, t2, t4, t5, t6, t7, t8, t9, t10, t11, t12, e39]
 obtain ⟨c1, c2⟩ := m42_zero hcs.1 hcs.2 hden i1 hmx hcost
 -- no other plan costs less
 have other : (m38 n d b1 b2 b3 T ol oh hl hh p dp dn).2 = 0 → n42 (m38 n d b1 b2 b3 T ol oh hl hh p dp dn).1 dn ((lpOf (askD n d b1 b2 b3 T ol oh hl hh)).cost (xOf n d bp)) den = true ∧ ¬ m42 (m38 n d b1 b2 b3 T ol oh hl hh p dp dn).1 dn ((lpOf (askD n d b1 b2 b3 T ol oh hl hh)).cost (xOf n d bp)) den < 0 := fun h0 => by
  obtain ⟨rfl, o2, o3, o4⟩ := plan_is n hn d hs b1 b2 b3 T ol oh hl hh p dp dn h34 h0
  obtain ⟨_, _, o5, _⟩ := plan_ok p hn d hs b1 b2 b3 T ol oh hl hh p dp dn h34
  have o6 : (m38 p d b1 b2 b3 T ol oh hl hh p dp dn).1 = (lpOf (askD p d b1 b2 b3 T ol oh hl hh)).cost (xOf p d dp) := by rw [p3, ← o5, o4]
  have ocs := cost_small K o2 o3
  rw [o6]
  refine m42_ge ocs.1 ocs.2 o2 hden hcs.1 hcs.2 ?_
  have hv := (value_le K (times := 1) (.inr rfl) i1 i2 i3 i4 i5 i6).1
  have hwk := (lpOf (askD p d b1 b2 b3 T ol oh hl hh)).weak o3 W (a - b) (c - e) q
  rw [Int.one_mul] at hv
  generalize (lpOf (askD p d b1 b2 b3 T ol oh hl hh)).cost (xOf p d dp) = C' at *
  generalize (lpOf (askD p d b1 b2 b3 T ol oh hl hh)).cost (xOf p d bp) = C at *
  generalize m99 (askD p d b1 b2 b3 T ol oh hl hh) W a b c e q 1 = V at *
  generalize (lpOf (askD p d b1 b2 b3 T ol oh hl hh)).H W (a - b) (c - e) q = H at *
  have g1 : dn * V ≤ dn * H := Int.mul_le_mul_of_nonneg_left hv (by omega)
  have g2 : dn * V ≤ q * C' := by omega
  have g3 : den * (dn * V) ≤ den * (q * C') := Int.mul_le_mul_of_nonneg_left g2 (by omega)
  apply Int.le_of_mul_le_mul_left _ (show 0 < q by omega)
  have e1 : q * (C * dn) = den * (dn * V) := by
   have : q * (C * dn) = (C * q) * dn := by grind
   rw [this, hcost]; grind
  have e2 : q * (C' * den) = den * (q * C') := by grind
  omega
 -- the list
 obtain ⟨g0, g1, g2, g3, g4, g5, g6⟩ := (plan_iff K den (xOf n d bp)).1 hP
 have x0 : ∀ j, j < n → xOf n d bp j = bp.ii j 0 := fun j hj => by simp [xOf, hj]
 have hT1 := R.T1; have hT2 := R.T2; have ho0 := R.o0; have hh0 := R.h0; have hn0 := R.n0; have hle := R.le
 have wb : ∀ {x : Int}, 0 ≤ x → x ≤ 10000000 → (0 ≤ den * x ∧ den * x ≤ 1000000 * 10000000) ∧ IntKind.i64.wrap (den * x) = den * x := fun {x} a1 a2 => by
  have := mulb (show 0 ≤ den by omega) hden.2 a1 a2
  exact ⟨this, wr (by omega) (by omega)⟩
 obtain ⟨m1, v1⟩ := wb ho0 (by omega)
 obtain ⟨m2, v2⟩ := wb hh0 (by omega)
 obtain ⟨m3, v3⟩ := wb hn0 (by omega)
 have t29 : t5_29 n d b1 b2 b3 T ol oh hl hh p dp dn = datS [SV.int IntKind.i64 1000, SV.int IntKind.i64 0, SV.int IntKind.i64 (den * b1), SV.int IntKind.i64 0, SV.int IntKind.i64 1000, SV.int IntKind.i64 (den * b2), SV.int IntKind.i64 0, SV.int IntKind.i64 0, SV.int IntKind.i64 (den * b3)] 3 := by simp only [t5_29, t17, v1, v2, v3]
 obtain ⟨E, o50, hE⟩ := lst_ok (n := n) (d := d) (bp := bp) (B := t5_29 n d b1 b2 b3 T ol oh hl hh p dp dn) (by omega) b1 b2 b3 T ol oh hl hh p dp dn den W a b c e q
 have t30 : t5_30 n d b1 b2 b3 T ol oh hl hh p dp dn = 3 + n := by simp only [t5_30, t15, t16, t17, t18, t19, t20, t21, t22, t23, o50, Option.getD_some]
 have t31 : t5_31 n d b1 b2 b3 T ol oh hl hh p dp dn = 3 + n := by simp only [t5_31, t15, t16, t17, t18, t19, t20, t21, t22, t23, o50, Option.getD_some]
 have t32 : t5_32 n d b1 b2 b3 T ol oh hl hh p dp dn = E := by simp only [t5_32, t15, t16, t17, t18, t19, t20, t21, t22, t23, o50, Option.getD_some]
 have E0 : E.ii 0 0 = 1000 ∧ E.ii 0 1 = 0 ∧ E.ii 0 2 = den * b1 := by
  rw [hE.1 0 (by decide), hE.1 0 (by decide), hE.1 0 (by decide), t29]; exact ⟨rfl, rfl, rfl⟩
 have E1 : E.ii 1 0 = 0 ∧ E.ii 1 1 = 1000 ∧ E.ii 1 2 = den * b2 := by
  rw [hE.1 1 (by decide), hE.1 1 (by decide), hE.1 1 (by decide), t29]; exact ⟨rfl, rfl, rfl⟩
 have E2 : E.ii 2 0 = 0 ∧ E.ii 2 1 = 0 ∧ E.ii 2 2 = den * b3 := by
  rw [hE.1 2 (by decide), hE.1 2 (by decide), hE.1 2 (by decide), t29]; exact ⟨rfl, rfl, rfl⟩
 -- the amounts
 obtain ⟨B1, o52⟩ : ∃ B1, o5_2 (3 + n) n d b1 b2 b3 T ol oh hl hh p dp dn n bp den W a b c e q (3 + n) E 0 = some B1 ∧ (B1 = (true, true, default) ∨ (B1 = (false, default, ()) ∧ ∀ i, i < 3 + n → E.ii i 2 ≤ 1000000000)) := by
  refine ⟨first (fun i => cond (decide (1000000000 < E.ii i 2)) (some (true, true, default)) none) (false, default, ()) (3 + n) 0, ?_, ?_⟩
  ·exact amt_ok (3 + n) (by omega) b1 b2 b3 T ol oh hl hh p dp dn den W a b c e q E
  ·rcases first_cases (g := fun i => cond (decide (1000000000 < E.ii i 2)) (some (true, true, (default : Unit))) none) (e := (false, default, ())) (3 + n) 0 with ⟨j, v, _, _, h3, _, h5⟩ | ⟨h1, h2⟩
   ·left
    rw [h5]
    cases hh : decide (1000000000 < E.ii j 2) with
    | true => simp only [hh, cond_true] at h3; exact (Option.some.inj h3).symm
    | false => simp only [hh, cond_false] at h3; cases h3
   ·right
    refine ⟨h2, fun i hi => ?_⟩
    have := h1 i (Nat.zero_le _) (by omega)
    by_cases hh : 1000000000 < E.ii i 2
    ·simp only [decide_eq_true hh, cond_true] at this; cases this
    ·omega
 obtain ⟨o52, hB1⟩ := o52
 have kk : (bif decide ((m38 n d b1 b2 b3 T ol oh hl hh p dp dn).2 = 0) then decide (m42 (m38 n d b1 b2 b3 T ol oh hl hh p dp dn).1 dn ((lpOf (askD n d b1 b2 b3 T ol oh hl hh)).cost (xOf n d bp)) den < 0) else false) = false := by
  by_cases h0 : (m38 n d b1 b2 b3 T ol oh hl hh p dp dn).2 = 0
  ·rw [decide_eq_true h0, decide_eq_false (other h0).2]; rfl
  ·rw [decide_eq_false h0]; rfl
 have kn : (bif (bif decide ((m38 n d b1 b2 b3 T ol oh hl hh p dp dn).2 = 0) then false else true) then true else n42 (m38 n d b1 b2 b3 T ol oh hl hh p dp dn).1 dn ((lpOf (askD n d b1 b2 b3 T ol oh hl hh)).cost (xOf n d bp)) den) = true := by
  by_cases h0 : (m38 n d b1 b2 b3 T ol oh hl hh p dp dn).2 = 0
  ·rw [decide_eq_true h0, (other h0).1]; rfl
  ·rw [decide_eq_false h0]; rfl
 have bn : ∀ u : Bool, (bif (bif u then false else true) then false else true) = u := fun u => by cases u <;> rfl
 have y8 : ∀ u : Bool, (bif (bif u then false else true) then true else true) = true := fun u => by cases u <;> rfl
 have z3 : decide (0 + (3 + n) ≤ 3 + n) = true := decide_eq_true (by omega)
 have s40 : (m40 n d b1 b2 b3 T ol oh hl hh n bp den).2 = 0 := by rw [u6]
 rcases hB1 with rfl | ⟨rfl, hamt⟩
 ·constructor
  ·simp only [n5, v5, n18_val, m18_val, t0, a37, h37, hp9, n34t, h34, t1, t2, t3, z2, t4, t5, t6, t7, t8, t9, t10, t11, t12, t13, n35t, e39, a39 p dp (by omega), p1, u2, s40, a39 n bp (by omega), u1, s1, t14, t15, t16, t17, t18, t19, t20, t21, t22, t23, t24, t25, t26, t27, t28, t30, t31, t32, c1, c2, kk, kn, bn, o50, o52, Option.isSome_some, Option.getD_some, decide_true, cond_true, cond_false]; rfl
  ·simp only [m5, w5, m18_val, t0, h37, hp9, h34, t13, t14, t15, t16, t17, t18, t19, t20, t21, t22, t23, t24, t25, t26, t27, t28, t30, t31, t32, s40, c2, kk, o52, Option.getD_some, decide_true, cond_true, cond_false]
 -- the mixture
 have P : Pts (3 + n) E := by
  refine ⟨by omega, fun i hi => ?_, fun i hi => ⟨?_, hamt i hi⟩⟩
  ·rcases split3 hi with rfl | rfl | rfl | ⟨j, rfl, hj⟩
   ·obtain ⟨e1, e2, _⟩ := E0; rw [e1, e2]; omega
   ·obtain ⟨e1, e2, _⟩ := E1; rw [e1, e2]; omega
   ·obtain ⟨e1, e2, _⟩ := E2; rw [e1, e2]; omega
   ·obtain ⟨e1, e2, _⟩ := hE.2 j hj; rw [e1, e2]; exact R.gas j hj
  ·rcases split3 hi with rfl | rfl | rfl | ⟨j, rfl, hj⟩
   ·rw [E0.2.2]; exact m1.1
   ·rw [E1.2.2]; exact m2.1
   ·rw [E2.2.2]; exact m3.1
   ·rw [(hE.2 j hj).2.2, ← x0 j hj]; exact (g1 j hj).1
 have S0 : sm (fun i => E.ii i 2) (3 + n) = den * T := by
  rw [sm_shift3, E0.2.2, E1.2.2, E2.2.2, sm_congr (g := fun j => xOf n d bp j) fun j hj => by rw [(hE.2 j hj).2.2, x0 j hj], g4]
  grind
 have S1 : sm (fun i => E.ii i 0 * E.ii i 2) (3 + n) = 1000 * (den * b1) + xOf n d bp n := by
  rw [sm_shift3, E0.1, E1.1, E2.1, E0.2.2, sm_congr (g := fun j => xOf n d bp j * d.ii j 1) fun j hj => by rw [(hE.2 j hj).1, (hE.2 j hj).2.2, x0 j hj, Int.mul_comm], g5]
  omega
 have S2 : sm (fun i => E.ii i 1 * E.ii i 2) (3 + n) = 1000 * (den * b2) + xOf n d bp (n + 1) := by
  rw [sm_shift3, E0.2.1, E1.2.1, E2.2.1, E1.2.2, sm_congr (g := fun j => xOf n d bp j * d.ii j 2) fun j hj => by rw [(hE.2 j hj).2.1, (hE.2 j hj).2.2, x0 j hj, Int.mul_comm], g6]
  omega
 have hST : 0 < den * T := Int.mul_pos (by omega) (by omega)
 obtain ⟨n43t, hm⟩ := mixed_ok P (by rw [S0]; omega)
 rcases hm with h8 | ⟨a0, c0, e0, a1, c1', e1, a2, c2', hm, he0, he1, w1, w2, w3, w4, r0, q0, r1, q1, r2, q2⟩
 ·have t33 : t5_33 n d b1 b2 b3 T ol oh hl hh p dp dn = 8 := by simp only [t5_33, t30, t32, h8]
  have k80 : decide ((8 : Int) = 0) = false := rfl
  constructor
  ·simp only [n5, v5, n18_val, m18_val, t0, a37, h37, hp9, n34t, h34, t1, t2, t3, z2, t4, t5, t6, t7, t8, t9, t10, t11, t12, t13, n35t, e39, a39 p dp (by omega), p1, u2, s40, a39 n bp (by omega), u1, s1, t14, t15, t16, t17, t18, t19, t20, t21, t22, t23, t24, t25, t26, t27, t28, t30, t31, t32, t33, k80, c1, c2, kk, kn, bn, o50, o52, z3, n43t, Option.isSome_some, Option.getD_some, decide_true, cond_true, cond_false]; rfl
  ·simp only [m5, w5, m18_val, t0, h37, hp9, h34, t13, t14, t15, t16, t17, t18, t19, t20, t21, t22, t23, t24, t25, t26, t27, t28, t30, t31, t32, t33, k80, s40, c2, kk, o52, Option.getD_some, decide_true, cond_true, cond_false]
 ·rw [S1] at w1
  rw [S0] at w2 w4
  rw [S2] at w3
  have l1 := range_ok he0 w1 w2 (lo := ol) (hi := oh) (by
   have := g2.1
   have x : den * (ol * T - 1000 * b1) = den * T * ol - 1000 * (den * b1) := by grind
   omega) (by
   have := g2.2
   have x : den * (oh * T - 1000 * b1) = den * T * oh - 1000 * (den * b1) := by grind
   omega)
  have l2 := range_ok he1 w3 w4 (lo := hl) (hi := hh) (by
   have := g3.1
   have x : den * (hl * T - 1000 * b2) = den * T * hl - 1000 * (den * b2) := by grind
   omega) (by
   have := g3.2
   have x : den * (hh * T - 1000 * b2) = den * T * hh - 1000 * (den * b2) := by grind
   omega)
  have t33 : t5_33 n d b1 b2 b3 T ol oh hl hh p dp dn = 0 := by simp only [t5_33, t30, t32, hm]
  have t34 : t5_34 n d b1 b2 b3 T ol oh hl hh p dp dn = c1' := by simp only [t5_34, t30, t32, hm]
  have t35 : t5_35 n d b1 b2 b3 T ol oh hl hh p dp dn = a2 := by simp only [t5_35, t30, t32, hm]
  have t36 : t5_36 n d b1 b2 b3 T ol oh hl hh p dp dn = c2' := by simp only [t5_36, t30, t32, hm]
  have kO := R.O; have kH := R.H
  have z1 := mulb kO.1 (show ol ≤ 1000 by omega) (show 0 ≤ c0 by omega) q0.2
  have z2' := mulb (show 0 ≤ oh by omega) kO.2.2 (show 0 ≤ c0 by omega) q0.2
  have z3' := mulb kH.1 (show hl ≤ 1000 by omega) (show 0 ≤ c1' by omega) q1.2
  have z4 := mulb (show 0 ≤ hh by omega) kH.2.2 (show 0 ≤ c1' by omega) q1.2
  have t37 : t5_37 n d b1 b2 b3 T ol oh hl hh p dp dn = true := by
   simp only [t5_37, t30, t32, hm]
   rw [wr (n := 1000 * a0) (by omega) (by omega), wr (n := ol * c0) (by omega) (by omega), wr (n := oh * c0) (by omega) (by omega)]
   exact m32_iff.2 l1
  have last : m32 (IntKind.i64.wrap (1000 * a1)) (IntKind.i64.wrap (hl * c1')) (IntKind.i64.wrap (hh * c1')) = true := by
   rw [wr (n := 1000 * a1) (by omega) (by omega), wr (n := hl * c1') (by omega) (by omega), wr (n := hh * c1') (by omega) (by omega)]
   exact m32_iff.2 l2
  have o54 := l5_4_all n d b1 b2 b3 T ol oh hl hh p dp dn n bp den W a b c e q (3 + n) E a0 c0 a1 c1' a2 c2' r0 q0 r1 q1 r2 q2
  constructor
  ·simp only [n5, v5, n18_val, m18_val, t0, a37, h37, hp9, n34t, h34, t1, t2, t3, z2, t4, t5, t6, t7, t8, t9, t10, t11, t12, t13, n35t, e39, a39 p dp (by omega), p1, u2, s40, a39 n bp (by omega), u1, s1, t14, t15, t16, t17, t18, t19, t20, t21, t22, t23, t24, t25, t26, t27, t28, t30, t31, t32, t33, t34, t35, t36, t37, c1, c2, kk, kn, bn, y8, o50, o52, o54, z3, n43t, hm, Option.isSome_some, Option.getD_some, decide_true, cond_true, cond_false]; rfl
  ·simp only [m5, w5, m18_val, t0, h37, hp9, h34, t13, t14, t15, t16, t17, t18, t19, t20, t21, t22, t23, t24, t25, t26, t27, t28, t30, t31, t32, t33, t34, t35, t36, t37, s40, c2, kk, o52, o54, hm, last, Option.getD_some, decide_true, cond_true, cond_false]
end
end Go.Proofs.Ytmndejpcpfkajaa

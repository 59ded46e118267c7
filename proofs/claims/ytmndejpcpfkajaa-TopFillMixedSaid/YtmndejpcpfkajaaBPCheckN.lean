/-
 Quotients compared: the reference's way by whole parts, the program's by products of 128 bits. Conditions: none.
-/
import Derived.Test.YtmndejpcpfkajaaBPPartials
namespace Go.Proofs.Ytmndejpcpfkajaa
open Go Go.Sy
set_option linter.unusedVariables false
set_option linter.unusedSimpArgs false
set_option maxRecDepth 100000
theorem m100_all {x y : Int} (hy : 0 < y) (hx0 : -9223372036854775808 ≤ x) (hx1 : x ≤ 9223372036854775807) : m100 x y = x / y := by
 have e1 := Int.mul_ediv_add_emod x y
 have a1 := Int.emod_nonneg x (Int.ne_of_gt hy)
 have a2 := Int.emod_lt_of_pos x hy
 have t1 := Int.mul_tdiv_add_tmod x y
 have q0 : -9223372036854775808 ≤ x / y ∧ x / y ≤ 9223372036854775807 := by
  by_cases h : 0 ≤ x
  ·have := Int.ediv_nonneg h (Int.le_of_lt hy)
   have := Int.ediv_le_self y h
   omega
  ·have : x / y ≤ 0 := by
    apply Decidable.byContradiction
    intro k
    have : y * 1 ≤ y * (x / y) := Int.mul_le_mul_of_nonneg_left (by omega) (by omega)
    omega
   have : -(-x) ≤ x / y := by
    apply Decidable.byContradiction
    intro k
    have h1 : y * (x / y) ≤ y * (x - 1) := Int.mul_le_mul_of_nonneg_left (by omega) (by omega)
    have h2 : y * (x - 1) = y * x - y := by rw [Int.mul_sub, Int.mul_one]
    have h3 : y * x ≤ 1 * x := Int.mul_le_mul_of_nonpos_right (by omega) (by omega)
    omega
   omega
 by_cases h : 0 ≤ x
 ·have h1 : x.tmod y = x % y := Int.tmod_eq_emod_of_nonneg h
  have h2 : x.tdiv y = x / y := Int.tdiv_eq_ediv_of_nonneg h
  simp only [m100, h1, h2]
  rw [decide_eq_false (by omega), cond_false]
  exact wr (by omega) (by omega)
 ·have h1 : x.tmod y = -((-x) % y) := by
   have := Int.neg_tmod (-x) y
   rw [Int.neg_neg, Int.tmod_eq_emod_of_nonneg (show 0 ≤ -x by omega)] at this
   exact this
  have c1 := Int.emod_nonneg (-x) (Int.ne_of_gt hy)
  have c2 := Int.emod_lt_of_pos (-x) hy
  have hq0 : x / y < 0 := Int.ediv_neg_of_neg_of_pos (by omega) hy
  generalize ht : x.tdiv y = t at *
  generalize hu : (-x) % y = u at *
  generalize hq : x / y = q at *
  generalize hr : x % y = r at *
  have s : y * (t - q) = y * t - y * q := Int.mul_sub _ _ _
  simp only [m100, h1, ht]
  by_cases hz : u = 0
  ·rw [decide_eq_false (by omega), cond_false]
   have : t = q := by
    have h1 : t - q ≤ 0 := by
     apply Decidable.byContradiction
     intro h
     have : y * 1 ≤ y * (t - q) := Int.mul_le_mul_of_nonneg_left (by omega) (by omega)
     omega
    have h2 : 0 ≤ t - q := by
     apply Decidable.byContradiction
     intro h
     have : y * (t - q) ≤ y * (-1) := Int.mul_le_mul_of_nonneg_left (by omega) (by omega)
     omega
    omega
   rw [this]
   exact wr (by omega) (by omega)
  ·rw [decide_eq_true (by omega), cond_true]
   have : t = q + 1 := by
    have h1 : t - q ≤ 1 := by
     apply Decidable.byContradiction
     intro h
     have : y * 2 ≤ y * (t - q) := Int.mul_le_mul_of_nonneg_left (by omega) (by omega)
     omega
    have h2 : 1 ≤ t - q := by
     apply Decidable.byContradiction
     intro h
     have : y * (t - q) ≤ y * 0 := Int.mul_le_mul_of_nonneg_left (by omega) (by omega)
     omega
    omega
   rw [this, wr (n := q + 1) (by omega) (by omega), wr (by omega) (by omega)]
   omega
def sgn (x : Int) : Int := if x < 0 then -1 else if 0 < x then 1 else 0
theorem floor_step {n d : Int} (hn0 : 0 ≤ n) (hn1 : n ≤ 9223372036854775807) (hd0 : 0 < d) :
  m100 n d = n / d ∧ n100 n d = true ∧ IntKind.i64.wrap (n - IntKind.i64.wrap (m100 n d * d)) = n % d ∧ n = d * (n / d) + n % d ∧ 0 ≤ n % d ∧ n % d < d ∧ 0 ≤ n / d := by
 have h := m100_all (x := n) hd0 (by omega) (by omega)
 have e1 := Int.mul_ediv_add_emod n d
 have a1 := Int.emod_nonneg n (Int.ne_of_gt hd0)
 have a2 := Int.emod_lt_of_pos n hd0
 have a3 := Int.ediv_nonneg hn0 (Int.le_of_lt hd0)
 have a4 : 0 ≤ d * (n / d) := Int.mul_nonneg (by omega) a3
 have hz : decide (d = 0) = false := decide_eq_false (by omega)
 refine ⟨h, ?_, ?_, by omega, a1, a2, a3⟩
 ·simp only [n100, hz, cond_false, Bool.and_true]
 ·rw [h, Int.mul_comm (n / d) d, wr (n := d * (n / d)) (by omega) (by omega), wr (by omega) (by omega)]
  omega
theorem prod_lt {n d m k : Int} (hd : 0 < d) (hk : 0 < k) (h : n / d < m / k) : n * k - m * d < 0 := by
 have e1 := Int.mul_ediv_add_emod n d
 have a2 := Int.emod_lt_of_pos n hd
 have e2 := Int.mul_ediv_add_emod m k
 have b1 := Int.emod_nonneg m (Int.ne_of_gt hk)
 have h1 : n < d * (n / d + 1) := by rw [Int.mul_add, Int.mul_one]; omega
 have h2 : d * (n / d + 1) ≤ d * (m / k) := Int.mul_le_mul_of_nonneg_left (by omega) (by omega)
 have h3 : n * k < (d * (m / k)) * k := Int.mul_lt_mul_of_pos_right (by omega) hk
 have h4 : (k * (m / k)) * d ≤ m * d := Int.mul_le_mul_of_nonneg_right (by omega) (by omega)
 have h5 : (k * (m / k)) * d = (d * (m / k)) * k := by grind
 omega
theorem sgn_neg {x : Int} (h : x < 0) : sgn x = -1 := by simp [sgn, h]
theorem sgn_pos {x : Int} (h : 0 < x) : sgn x = 1 := by
 have : ¬ x < 0 := by omega
 simp [sgn, h, this]
theorem sgn_zero {x : Int} (h : x = 0) : sgn x = 0 := by subst h; rfl
theorem compare_loop : ∀ (f : Nat) (n d m k : Int), 0 ≤ n → 0 < d → 0 ≤ m → 0 < k → n ≤ 9223372036854775807 → d ≤ 9223372036854775807 → m ≤ 9223372036854775807 → k ≤ 9223372036854775807 →
  (n + d + m + k + 2 ≤ f ∨ (d ≤ n ∧ n + d + m + k + 1 ≤ f)) → l42_0 f n d m k = some (sgn (n * k - m * d))
 | 0, n, d, m, k, hn, hd, hm, hk, bn, bd, bm, bk, hf => by exfalso; omega
 | f + 1, n, d, m, k, hn, hd, hm, hk, bn, bd, bm, bk, hf => by
  obtain ⟨p1, p2, p6, p7, p8, p9, p10⟩ := floor_step hn bn hd
  obtain ⟨q1, q2, q6, q7, q8, q9, q10⟩ := floor_step hm bm hk
  simp only [l42_0, p2, q2, cond_true, p6, q6]
  rw [p1, q1]
  by_cases c1 : n / d < m / k
  ·rw [decide_eq_true c1, cond_true, sgn_neg (prod_lt hd hk c1)]
  ·rw [decide_eq_false c1, cond_false]
   by_cases c2 : m / k < n / d
   ·have := prod_lt hk hd c2
    rw [decide_eq_true c2, cond_true, sgn_pos (by omega)]
   ·rw [decide_eq_false c2, cond_false]
    have e : n / d = m / k := by omega
    have key : n * k - m * d = (n % d) * k - (m % k) * d := by
     rw [e] at p7
     generalize n % d = n' at *
     generalize m % k = m' at *
     generalize m / k = q at *
     subst p7
     have : m * d = (k * q + m') * d := by rw [← q7]
     grind
    rw [key]
    by_cases z1 : n % d = 0
    ·by_cases z2 : m % k = 0
     ·simp only [z1, z2, decide_true, cond_true]
      rw [sgn_zero (by omega)]
     ·simp only [z1, z2, decide_true, decide_false, cond_true, cond_false]
      have : 0 < m % k * d := Int.mul_pos (by omega) hd
      rw [sgn_neg (by omega)]
    ·by_cases z2 : m % k = 0
     ·simp only [z1, z2, decide_true, decide_false, cond_true, cond_false]
      have : 0 < n % d * k := Int.mul_pos (by omega) hk
      rw [sgn_pos (by omega)]
     ·simp only [z1, z2, decide_false, cond_false]
      have r := compare_loop f k (m % k) d (n % d) (by omega) (by omega) (by omega) (by omega) bk (by omega) bd (by omega) (by
       by_cases hdn : d ≤ n
       ·left
        have g1 : 1 ≤ n / d := by
         apply Decidable.byContradiction; intro h
         have : n / d = 0 := by omega
         rw [this] at p7
         omega
        have g2 : d * 1 ≤ d * (n / d) := Int.mul_le_mul_of_nonneg_left g1 (by omega)
        have g6 : k * 1 ≤ k * (m / k) := Int.mul_le_mul_of_nonneg_left (by omega) (by omega)
        omega
       ·right
        have g1 : n / d = 0 := Int.ediv_eq_zero_of_lt hn (by omega)
        have g2 : m / k = 0 := by omega
        rw [g1, Int.mul_zero] at p7
        rw [g2, Int.mul_zero] at q7
        omega)
      rw [r, Int.mul_comm k, Int.mul_comm d]
theorem compare_ref {n d m k : Int} (hn : 0 ≤ n) (hd : 0 < d) (hm : -9223372036854775808 ≤ m) (hk : 0 < k) (bn : n ≤ 9223372036854775807) (bd : d ≤ 9223372036854775807) (bm : m ≤ 9223372036854775807) (bk : k ≤ 9223372036854775807) :
  n42 n d m k = true ∧ m42 n d m k = sgn (n * k - m * d) := by
 have h : o42_0 n d m k = some (sgn (n * k - m * d)) := by
  by_cases h0 : 0 ≤ m
  ·exact compare_loop _ n d m k hn hd h0 hk bn bd bm bk (Or.inl (by omega))
  ·obtain ⟨p1, p2, p6, p7, p8, p9, p10⟩ := floor_step hn bn hd
   have q1 := m100_all (x := m) hk hm bm
   have q2 : n100 m k = true := by
    have hz : decide (k = 0) = false := decide_eq_false (by omega)
    simp only [n100, hz, cond_false, Bool.and_true]
   have q6 : m / k < 0 := Int.ediv_neg_of_neg_of_pos (by omega) hk
   have c1 : ¬ n / d < m / k := by omega
   have c2 : m / k < n / d := by omega
   have c6 := prod_lt hk hd c2
   show l42_0 (n.toNat + d.toNat + m.toNat + k.toNat + 8) n d m k = _
   simp only [l42_0, p2, q2, cond_true, p1, q1]
   rw [decide_eq_false c1, decide_eq_true c2, cond_false, cond_true, sgn_pos (by omega)]
 simp only [n42, m42, h]
 exact ⟨rfl, rfl⟩
theorem low32 {a : Int} (h0 : 0 ≤ a) (h1 : a < 18446744073709551616) : (↑(BitVec.ofInt IntKind.u64.bits a &&& BitVec.ofInt IntKind.u64.bits 4294967295).toNat : Int) = a % 4294967296 := by
 have e : IntKind.u64.bits = 64 := rfl
 rw [e, BitVec.toNat_and]
 have h2 : (BitVec.ofInt 64 a).toNat = a.toNat := by
  rw [BitVec.toNat_ofInt]
  have : a % ((2 ^ 64 : Nat) : Int) = a := Int.emod_eq_of_lt h0 (by simpa using h1)
  rw [this]
 have h3 : (BitVec.ofInt 64 4294967295).toNat = 2 ^ 32 - 1 := by decide
 rw [h2, h3, Nat.and_two_pow_sub_one_eq_mod]
 omega
theorem uw {n : Int} (h0 : 0 ≤ n) (h1 : n < 18446744073709551616) : IntKind.u64.wrap n = n := by
 simp [IntKind.wrap, IntKind.bits, IntKind.signed]; omega
theorem high32 {a : Int} (h0 : 0 ≤ a) : a.fdiv ↑(2 ^ min (Int.toNat 32) IntKind.u64.bits) = a / 4294967296 := by
 have e : (↑(2 ^ min (Int.toNat 32) IntKind.u64.bits) : Int) = 4294967296 := rfl
 rw [e, Int.fdiv_eq_ediv_of_nonneg _ (by omega)]
theorem mul64 {a b : Int} (ha0 : 0 ≤ a) (ha : a < 18446744073709551616) (hb0 : 0 ≤ b) (hb : b < 4294967296) : m147 a b = ((a * b) / 18446744073709551616, (a * b) % 18446744073709551616) := by
 have hb1 : b / 4294967296 = 0 := by omega
 have hb2 : b % 4294967296 = b := by omega
 have x0 : 0 ≤ a % 4294967296 ∧ a % 4294967296 ≤ 4294967295 := by omega
 have x1 : 0 ≤ a / 4294967296 ∧ a / 4294967296 ≤ 4294967295 := by omega
 have P := mulb x0.1 x0.2 hb0 (show b ≤ 4294967295 by omega)
 have Q := mulb x1.1 x1.2 hb0 (show b ≤ 4294967295 by omega)
 have ab : a * b = 4294967296 * (a / 4294967296 * b) + a % 4294967296 * b := by
  have : a = 4294967296 * (a / 4294967296) + a % 4294967296 := by omega
  generalize a / 4294967296 = u at *
  generalize a % 4294967296 = v at *
  subst this
  grind
 simp only [m147]
 rw [high32 ha0, high32 hb0, low32 ha0 ha, low32 hb0 (by omega), hb1, hb2, uw (n := b) (by omega) (by omega), uw (n := a % 4294967296) (by omega) (by omega)]
 rw [ab]
 generalize hp : a % 4294967296 * b = p at *
 generalize hq : a / 4294967296 * b = q at *
 rw [uw (n := p) (by omega) (by omega), high32 P.1, uw (n := q) (by omega) (by omega), uw (n := q + p / 4294967296) (by omega) (by omega), Int.mul_zero, Int.mul_zero, high32 (a := q + p / 4294967296) (by omega), low32 (a := q + p / 4294967296) (by omega) (by omega)]
 rw [uw (n := (0 : Int)) (by omega) (by omega), uw (n := (q + p / 4294967296) % 4294967296) (by omega) (by omega), Int.add_zero, uw (n := (q + p / 4294967296) % 4294967296) (by omega) (by omega), high32 (a := (q + p / 4294967296) % 4294967296) (by omega)]
 rw [uw (n := 0 + (q + p / 4294967296) / 4294967296) (by omega) (by omega), uw (n := 0 + (q + p / 4294967296) / 4294967296 + (q + p / 4294967296) % 4294967296 / 4294967296) (by omega) (by omega)]
 refine Prod.ext ?_ ?_
 ·show 0 + (q + p / 4294967296) / 4294967296 + (q + p / 4294967296) % 4294967296 / 4294967296 = _
  omega
 ·show IntKind.u64.wrap (4294967296 * q + p) = _
  simp [IntKind.wrap, IntKind.bits, IntKind.signed]
theorem or_two (x y : Int) : m148 2 (datS [SV.int IntKind.i64 x, SV.int IntKind.i64 y] 1) = cond (decide (x = 0)) y x ∧ n148 2 (datS [SV.int IntKind.i64 x, SV.int IntKind.i64 y] 1) = true := by
 have h : ∀ x y : Int, o148_0 0 2 (datS [SV.int IntKind.i64 x, SV.int IntKind.i64 y] 1) (↑(2 : Nat) : Int) 0 = cond (bif decide (x = 0) then false else true) (some (true, x, default)) (cond (bif decide (y = 0) then false else true) (some (true, y, default)) (some (false, default, ()))) := fun x y => by kernel_rfl
 constructor
 ·simp only [m148, h]
  by_cases hx : x = 0 <;> by_cases hy : y = 0 <;> simp [hx, hy]
 ·simp only [n148, h]
  by_cases hx : x = 0 <;> by_cases hy : y = 0 <;> simp [hx, hy]
theorem m149_sgn (x y : Int) : m149 x y = sgn (x - y) := by
 have e : ∀ z, m160 z = false := fun z => by simp [m160]
 simp only [m149, e, cond_false]
 by_cases h1 : x < y
 ·rw [decide_eq_true h1, cond_true, sgn_neg (by omega)]
 ·rw [decide_eq_false h1, cond_false]
  by_cases h2 : y < x
  ·rw [decide_eq_true h2, cond_true, sgn_pos (by omega)]
  ·rw [decide_eq_false h2, cond_false, sgn_zero (by omega)]
theorem compare_prog {n d m k : Int} (hn : 0 ≤ n) (hd : 0 < d) (hd1 : d < 4294967296) (hk : 0 < k) (hk1 : k < 4294967296) (bn : n ≤ 9223372036854775807) (bm : m ≤ 9223372036854775807) :
  n114 n d m k = true ∧ m114 n d m k = sgn (n * k - m * d) := by
 by_cases h : m < 0
 ·have : m * d < 0 := Int.mul_neg_of_neg_of_pos h hd
  have : 0 ≤ n * k := Int.mul_nonneg hn (by omega)
  simp only [n114, m114, decide_eq_true h, cond_true]
  rw [sgn_pos (by omega)]
  exact ⟨trivial, rfl⟩
 ·simp only [n114, m114, decide_eq_false h, cond_false]
  rw [uw (n := n) (by omega) (by omega), uw (n := k) (by omega) (by omega), uw (n := m) (by omega) (by omega), uw (n := d) (by omega) (by omega), mul64 (a := n) (b := k) (by omega) (by omega) (by omega) (by omega), mul64 (a := m) (b := d) (by omega) (by omega) (by omega) (by omega)]
  obtain ⟨o1, o2⟩ := or_two (m149 (n * k / 18446744073709551616) (m * d / 18446744073709551616)) (m149 (n * k % 18446744073709551616) (m * d % 18446744073709551616))
  refine ⟨by rw [o2]; rfl, ?_⟩
  rw [o1, m149_sgn, m149_sgn]
  generalize n * k = A
  generalize m * d = B
  by_cases c : A / 18446744073709551616 = B / 18446744073709551616
  ·rw [sgn_zero (x := A / 18446744073709551616 - B / 18446744073709551616) (by omega)]
   show sgn (A % 18446744073709551616 - B % 18446744073709551616) = _
   by_cases c1 : A < B
   ·rw [sgn_neg (x := A - B) (by omega), sgn_neg (by omega)]
   ·by_cases c2 : B < A
    ·rw [sgn_pos (x := A - B) (by omega), sgn_pos (by omega)]
    ·rw [sgn_zero (x := A - B) (by omega), sgn_zero (by omega)]
  ·by_cases c1 : A / 18446744073709551616 < B / 18446744073709551616
   ·rw [sgn_neg (x := A / 18446744073709551616 - B / 18446744073709551616) (by omega), sgn_neg (x := A - B) (by omega)]
    rfl
   ·rw [sgn_pos (x := A / 18446744073709551616 - B / 18446744073709551616) (by omega), sgn_pos (x := A - B) (by omega)]
    rfl
end Go.Proofs.Ytmndejpcpfkajaa

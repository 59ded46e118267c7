/-
  Quotients compared: the reference's way by whole parts, the program's by products of 128 bits. Conditions: none.
-/
import Derived.Test.YtmndejpcpfkajaaAPPartials
namespace Go.Proofs.Ytmndejpcpfkajaa
open Go Go.Sy
set_option linter.unusedVariables false
set_option linter.unusedSimpArgs false
set_option maxRecDepth 100000
def sgn (x : Int) : Int := if x < 0 then -1 else if 0 < x then 1 else 0
theorem sgn_neg {x : Int} (h : x < 0) : sgn x = -1 := by simp [sgn, h]
theorem sgn_pos {x : Int} (h : 0 < x) : sgn x = 1 := by
  have : ¬ x < 0 := by omega
  simp [sgn, h, this]
theorem sgn_zero {x : Int} (h : x = 0) : sgn x = 0 := by subst h; rfl
theorem low32 {a : Int} (h0 : 0 ≤ a) (h1 : a < 18446744073709551616) : (↑(BitVec.ofInt IntKind.u64.bits a &&& BitVec.ofInt IntKind.u64.bits 4294967295).toNat : Int) = a % 4294967296 := by
  have e : IntKind.u64.bits = 64 := rfl
  rw [e, BitVec.toNat_and]
  have h2 : (BitVec.ofInt 64 a).toNat = a.toNat := by
    rw [BitVec.toNat_ofInt]
    have : a % ((2 ^ 64 : Nat) : Int) = a := Int.emod_eq_of_lt h0 (by simpa using h1)
    rw [this]
  have h3 : (BitVec.ofInt 64 4294967295).toNat = 2 ^ 32 - 1 := by decide
  rw [h2, h3, Nat.and_two_pow_sub_one_eq_mod]
  omega
theorem uw {n : Int} (h0 : 0 ≤ n) (h1 : n < 18446744073709551616) : IntKind.u64.wrap n = n := by
  simp [IntKind.wrap, IntKind.bits, IntKind.signed]; omega
theorem high32 {a : Int} (h0 : 0 ≤ a) : a.fdiv ↑(2 ^ min (Int.toNat 32) IntKind.u64.bits) = a / 4294967296 := by
  have e : (↑(2 ^ min (Int.toNat 32) IntKind.u64.bits) : Int) = 4294967296 := rfl
  rw [e, Int.fdiv_eq_ediv_of_nonneg _ (by omega)]
theorem mul64 {a b : Int} (ha0 : 0 ≤ a) (ha : a < 18446744073709551616) (hb0 : 0 ≤ b) (hb : b < 4294967296) : m147 a b = ((a * b) / 18446744073709551616, (a * b) % 18446744073709551616) := by
  have hb1 : b / 4294967296 = 0 := by omega
  have hb2 : b % 4294967296 = b := by omega
  have x0 : 0 ≤ a % 4294967296 ∧ a % 4294967296 ≤ 4294967295 := by omega
  have x1 : 0 ≤ a / 4294967296 ∧ a / 4294967296 ≤ 4294967295 := by omega
  have P := mulb x0.1 x0.2 hb0 (show b ≤ 4294967295 by omega)
  have Q := mulb x1.1 x1.2 hb0 (show b ≤ 4294967295 by omega)
  have ab : a * b = 4294967296 * (a / 4294967296 * b) + a % 4294967296 * b := by
    have : a = 4294967296 * (a / 4294967296) + a % 4294967296 := by omega
    generalize a / 4294967296 = u at *
    generalize a % 4294967296 = v at *
    subst this
    grind
  simp only [m147]
  rw [high32 ha0, high32 hb0, low32 ha0 ha, low32 hb0 (by omega), hb1, hb2, uw (n := b) (by omega) (by omega), uw (n := a % 4294967296) (by omega) (by omega)]
  rw [ab]
  generalize hp : a % 4294967296 * b = p at *
  generalize hq : a / 4294967296 * b = q at *
  rw [uw (n := p) (by omega) (by omega), high32 P.1, uw (n := q) (by omega) (by omega), uw (n := q + p / 4294967296) (by omega) (by omega), Int.mul_zero, Int.mul_zero, high32 (a := q + p / 4294967296) (by omega), low32 (a := q + p / 4294967296) (by omega) (by omega)]
  rw [uw (n := (0 : Int)) (by omega) (by omega), uw (n := (q + p / 4294967296) % 4294967296) (by omega) (by omega), Int.add_zero, uw (n := (q + p / 4294967296) % 4294967296) (by omega) (by omega), high32 (a := (q + p / 4294967296) % 4294967296) (by omega)]
  rw [uw (n := 0 + (q + p / 4294967296) / 4294967296) (by omega) (by omega), uw (n := 0 + (q + p / 4294967296) / 4294967296 + (q + p / 4294967296) % 4294967296 / 4294967296) (by omega) (by omega)]
  refine Prod.ext ?_ ?_
  · show 0 + (q + p / 4294967296) / 4294967296 + (q + p / 4294967296) % 4294967296 / 4294967296 = _
    omega
  · show IntKind.u64.wrap (4294967296 * q + p) = _
    simp [IntKind.wrap, IntKind.bits, IntKind.signed]
theorem or_two (x y : Int) : m148 2 (datS [SV.int IntKind.i64 x, SV.int IntKind.i64 y] 1) = cond (decide (x = 0)) y x ∧ n148 2 (datS [SV.int IntKind.i64 x, SV.int IntKind.i64 y] 1) = true := by
  have h : ∀ x y : Int, o148_0 0 2 (datS [SV.int IntKind.i64 x, SV.int IntKind.i64 y] 1) (↑(2 : Nat) : Int) 0 = cond (bif decide (x = 0) then false else true) (some (true, x, default)) (cond (bif decide (y = 0) then false else true) (some (true, y, default)) (some (false, default, ()))) := fun x y => by kernel_rfl
  constructor
  · simp only [m148, h]
    by_cases hx : x = 0 <;> by_cases hy : y = 0 <;> simp [hx, hy]
  · simp only [n148, h]
    by_cases hx : x = 0 <;> by_cases hy : y = 0 <;> simp [hx, hy]
theorem m149_sgn (x y : Int) : m149 x y = sgn (x - y) := by
  have e : ∀ z, m160 z = false := fun z => by simp [m160]
  simp only [m149, e, cond_false]
  by_cases h1 : x < y
  · rw [decide_eq_true h1, cond_true, sgn_neg (by omega)]
  · rw [decide_eq_false h1, cond_false]
    by_cases h2 : y < x
    · rw [decide_eq_true h2, cond_true, sgn_pos (by omega)]
    · rw [decide_eq_false h2, cond_false, sgn_zero (by omega)]
theorem compare_prog {n d m k : Int} (hn : 0 ≤ n) (hd : 0 < d) (hd1 : d < 4294967296) (hk : 0 < k) (hk1 : k < 4294967296) (bn : n ≤ 9223372036854775807) (bm : m ≤ 9223372036854775807) :
    n114 n d m k = true ∧ m114 n d m k = sgn (n * k - m * d) := by
  by_cases h : m < 0
  · have : m * d < 0 := Int.mul_neg_of_neg_of_pos h hd
    have : 0 ≤ n * k := Int.mul_nonneg hn (by omega)
    simp only [n114, m114, decide_eq_true h, cond_true]
    rw [sgn_pos (by omega)]
    exact ⟨trivial, rfl⟩
  · simp only [n114, m114, decide_eq_false h, cond_false]
    rw [uw (n := n) (by omega) (by omega), uw (n := k) (by omega) (by omega), uw (n := m) (by omega) (by omega), uw (n := d) (by omega) (by omega), mul64 (a := n) (b := k) (by omega) (by omega) (by omega) (by omega), mul64 (a := m) (b := d) (by omega) (by omega) (by omega) (by omega)]
    obtain ⟨o1, o2⟩ := or_two (m149 (n * k / 18446744073709551616) (m * d / 18446744073709551616)) (m149 (n * k % 18446744073709551616) (m * d % 18446744073709551616))
    refine ⟨by rw [o2]; rfl, ?_⟩
    rw [o1, m149_sgn, m149_sgn]
    generalize n * k = A
    generalize m * d = B
    by_cases c : A / 18446744073709551616 = B / 18446744073709551616
    · rw [sgn_zero (x := A / 18446744073709551616 - B / 18446744073709551616) (by omega)]
      show sgn (A % 18446744073709551616 - B % 18446744073709551616) = _
      by_cases c1 : A < B
      · rw [sgn_neg (x := A - B) (by omega), sgn_neg (by omega)]
      · by_cases c2 : B < A
        · rw [sgn_pos (x := A - B) (by omega), sgn_pos (by omega)]
        · rw [sgn_zero (x := A - B) (by omega), sgn_zero (by omega)]
    · by_cases c1 : A / 18446744073709551616 < B / 18446744073709551616
      · rw [sgn_neg (x := A / 18446744073709551616 - B / 18446744073709551616) (by omega), sgn_neg (x := A - B) (by omega)]
        rfl
      · rw [sgn_pos (x := A / 18446744073709551616 - B / 18446744073709551616) (by omega), sgn_pos (x := A - B) (by omega)]
        rfl
end Go.Proofs.Ytmndejpcpfkajaa

/-
  The plain law of 'MixShares': the law's model is true, and its need. Conditions: none.
-/
import Derived.Test.YtmndejpcpfkajaaAFGasBalanced
import Derived.Test.YtmndejpcpfkajaaAPMatches
import Derived.Test.YtmndejpcpfkajaaAPPartials
import Derived.Test.YtmndejpcpfkajaaAPLoop
import Derived.Test.YtmndejpcpfkajaaAPFactors
import Derived.Test.YtmndejpcpfkajaaA1
import Derived.Test.YtmndejpcpfkajaaA2
import Derived.Test.YtmndejpcpfkajaaA3
import Derived.Test.YtmndejpcpfkajaaA4
namespace Go.Proofs.Ytmndejpcpfkajaa
open Go Go.Sy
set_option linter.unusedVariables false
set_option maxRecDepth 100000
def D6 (x y z : Int) : Dat := datS [SV.int IntKind.i64 x, SV.int IntKind.i64 y, SV.int IntKind.i64 z] 1
def sw1 (b : Dat) : Dat := (b.upd 1 0 [SV.int IntKind.i64 (b.ii 0 0)]).upd 0 0 [SV.int IntKind.i64 (b.ii 1 0)]
def sw2 (b : Dat) : Dat := (b.upd 2 0 [SV.int IntKind.i64 (b.ii 1 0)]).upd 1 0 [SV.int IntKind.i64 (b.ii 2 0)]
theorem out0 (b R : Dat) (x y : Dat) (h1 : o161c123_2 0 3 R 1 1 b = some x) (h2 : o161c123_2 0 3 R 2 2 x = some y) : o161c123_0 0 3 R 1 b = some y := by
  have e : o161c123_0 0 3 R 1 b = cond (o161c123_2 0 3 R 1 1 b).isSome (cond (o161c123_2 0 3 R 2 2 ((o161c123_2 0 3 R 1 1 b).getD default)).isSome (some ((o161c123_2 0 3 R 2 2 ((o161c123_2 0 3 R 1 1 b).getD default)).getD default)) none) none := by kernel_rfl
  rw [e, h1]
  simp [h2]
theorem m124_neg (x y : Int) : decide (m124 x y < 0) = decide (x < y) := by
  have k1 : ∀ z, m153 z = false := fun z => by simp [m153]
  simp only [m124, k1]
  by_cases h : x < y <;> by_cases k : y < x <;> simp [h, k]
/-- The order of the three ids. -/
theorem sort3 (r0 r1 r2 : Int) : ∃ y, o161c123_0 0 3 (D6 r0 r1 r2) 1 (D6 0 1 2) = some y ∧ (y.ii 0 0, y.ii 1 0) =
    cond (decide (r0 < r1)) (cond (decide (r0 < r2)) (cond (decide (r1 < r2)) (2, 1) (1, 2)) (1, 0)) (cond (decide (r1 < r2)) (cond (decide (r0 < r2)) (2, 0) (0, 2)) (0, 1)) := by
  have a1 : o161c123_2 0 3 (D6 r0 r1 r2) 1 1 (D6 0 1 2) = cond (decide (m124 r0 r1 < 0)) (some (sw1 (D6 0 1 2))) (some (D6 0 1 2)) := by kernel_rfl
  have b1 : o161c123_2 0 3 (D6 r0 r1 r2) 2 2 (sw1 (D6 0 1 2)) = cond (decide (m124 r0 r2 < 0)) (cond (decide (m124 r1 r2 < 0)) (some (sw1 (sw2 (sw1 (D6 0 1 2))))) (some (sw2 (sw1 (D6 0 1 2))))) (some (sw1 (D6 0 1 2))) := by kernel_rfl
  have b2 : o161c123_2 0 3 (D6 r0 r1 r2) 2 2 (D6 0 1 2) = cond (decide (m124 r1 r2 < 0)) (cond (decide (m124 r0 r2 < 0)) (some (sw1 (sw2 (D6 0 1 2)))) (some (sw2 (D6 0 1 2)))) (some (D6 0 1 2)) := by kernel_rfl
  rw [m124_neg] at a1
  rw [m124_neg, m124_neg] at b1 b2
  cases h1 : decide (r0 < r1) <;> rw [h1] at a1 <;> cases h2 : decide (r0 < r2) <;> rw [h2] at b1 b2 <;> cases h3 : decide (r1 < r2) <;> rw [h3] at b1 b2 <;> first | exact ⟨_, out0 _ _ _ _ a1 b1, by kernel_rfl⟩ | exact ⟨_, out0 _ _ _ _ a1 b2, by kernel_rfl⟩
/-- A share rounded down, what is left of it, and the units that are left over. -/
noncomputable def qd (x n S : Int) : Int := IntKind.i64.wrap ((IntKind.i64.wrap (x * n)).tdiv S)
noncomputable def rd (x n S : Int) : Int := (IntKind.i64.wrap (x * n)).tmod S
noncomputable def dd (a b c n S : Int) : Int := IntKind.i64.wrap (n - m84 (qd a n S) (qd b n S) (qd c n S))
noncomputable def srt (r0 r1 r2 : Int) : Option Dat := o161c123_0 0 3 (D6 r0 r1 r2) 1 (D6 0 1 2)
noncomputable def lp (a b c n S : Int) (y : Dat) : Option (Int × Int × Int) := o85_2 (dd a b c n S - 0).toNat (↑(dd a b c n S - 0).toNat : Int) a b c 0 0 0 (rd a n S) (rd b n S) (rd c n S) y 0 (qd a n S) (qd b n S) (qd c n S)
theorem m85_eq (a b c n : Int) : m85 a b c n = cond (decide (m84 a b c = 0)) (0, 0, 0) (((lp a b c n (m84 a b c) ((srt (rd a n (m84 a b c)) (rd b n (m84 a b c)) (rd c n (m84 a b c))).getD default)).getD default).1, ((lp a b c n (m84 a b c) ((srt (rd a n (m84 a b c)) (rd b n (m84 a b c)) (rd c n (m84 a b c))).getD default)).getD default).2.1, ((lp a b c n (m84 a b c) ((srt (rd a n (m84 a b c)) (rd b n (m84 a b c)) (rd c n (m84 a b c))).getD default)).getD default).2.2) := by kernel_rfl
theorem n85_eq (a b c n : Int) (S : Int) (hS : m84 a b c = S) (h0 : S ≠ 0) (y : Dat) (hy : srt (rd a n S) (rd b n S) (rd c n S) = some y) (hd : 0 ≤ dd a b c n S ∧ dd a b c n S ≤ 3) (hl : (lp a b c n S y).isSome = true) : n85 a b c n = true := by
  have e : n85 a b c n = cond (decide (m84 a b c = 0)) true ((bif decide (m84 a b c = 0) then false else true) && ((bif decide (m84 a b c = 0) then false else true) && ((bif decide (m84 a b c = 0) then false else true) && ((bif decide (m84 a b c = 0) then false else true) && ((bif decide (m84 a b c = 0) then false else true) && ((bif decide (m84 a b c = 0) then false else true) && ((((srt (rd a n (m84 a b c)) (rd b n (m84 a b c)) (rd c n (m84 a b c))).isSome && true) && true && true) && (decide ((0 : Int) ≤ 0 ∧ 0 ≤ dd a b c n (m84 a b c) ∧ dd a b c n (m84 a b c) ≤ 3) && ((lp a b c n (m84 a b c) ((srt (rd a n (m84 a b c)) (rd b n (m84 a b c)) (rd c n (m84 a b c))).getD default)).isSome && true))))))))) := by kernel_rfl
  rw [e, hS, hy]
  simp [h0, hl, hd]
/-- One more for the gas i. -/
noncomputable def up1 (i : Int) (q : Int × Int × Int) : Int × Int × Int :=
  (cond (decide (i = 0)) (IntKind.i64.wrap (q.1 + 1)) q.1, cond (decide (i = 1)) (IntKind.i64.wrap (q.2.1 + 1)) q.2.1, cond (decide (i = 2)) (IntKind.i64.wrap (q.2.2 + 1)) q.2.2)
theorem lp0 (f : Nat) (a b c r0 r1 r2 : Int) (y : Dat) (q0 q1 q2 : Int) : l85_2 0 0 a b c 0 0 0 r0 r1 r2 y (f + 1) 0 q0 q1 q2 = some (q0, q1, q2) := by kernel_rfl
theorem lpS (k : Nat) (t : Int) (f : Nat) (a b c r0 r1 r2 : Int) (y : Dat) (q0 q1 q2 i : Int) (hk : t < (k : Int)) (h0 : 0 ≤ t) (h3 : t < 3) (hy : y.ii t.toNat 0 = i) (hi : i = 0 ∨ i = 1 ∨ i = 2) :
    l85_2 k k a b c 0 0 0 r0 r1 r2 y (f + 1) t q0 q1 q2 = l85_2 k k a b c 0 0 0 r0 r1 r2 y f (IntKind.i64.wrap (t + 1)) (up1 i (q0, q1, q2)).1 (up1 i (q0, q1, q2)).2.1 (up1 i (q0, q1, q2)).2.2 := by
  have e : (0 : Nat) + t.toNat = t.toNat := by omega
  have e3 : t.toNat < 3 := by omega
  have key : l85_2 k k a b c 0 0 0 r0 r1 r2 y (f + 1) t q0 q1 q2 = cond (decide (t < (k : Int))) (cond (decide (0 ≤ t ∧ t < (k : Int))) (cond (decide (0 + t.toNat < 3)) (cond (decide (0 ≤ y.ii (0 + t.toNat) 0 ∧ y.ii (0 + t.toNat) 0 < ((3 : Nat) : Int))) (cond (decide ((y.ii (0 + t.toNat) 0).toNat < 3)) (cond (decide (0 ≤ y.ii (0 + t.toNat) 0 ∧ y.ii (0 + t.toNat) 0 < ((3 : Nat) : Int))) (cond (decide ((y.ii (0 + t.toNat) 0).toNat < 3))
      (l85_2 k k a b c 0 0 0 r0 r1 r2 y f (IntKind.i64.wrap (t + 1))
        (bif Nat.beq 0 (y.ii (0 + t.toNat) 0).toNat then IntKind.i64.wrap (intAt [SV.int IntKind.i64 q0, SV.int IntKind.i64 q1, SV.int IntKind.i64 q2] (0 + (y.ii (0 + t.toNat) 0).toNat * 1 + 0 + 0) + 1) else q0)
        (bif Nat.beq 1 (y.ii (0 + t.toNat) 0).toNat then IntKind.i64.wrap (intAt [SV.int IntKind.i64 q0, SV.int IntKind.i64 q1, SV.int IntKind.i64 q2] (0 + (y.ii (0 + t.toNat) 0).toNat * 1 + 0 + 0) + 1) else q1)
        (bif Nat.beq 2 (y.ii (0 + t.toNat) 0).toNat then IntKind.i64.wrap (intAt [SV.int IntKind.i64 q0, SV.int IntKind.i64 q1, SV.int IntKind.i64 q2] (0 + (y.ii (0 + t.toNat) 0).toNat * 1 + 0 + 0) + 1) else q2)) none) none) none) none) none) none) (some (q0, q1, q2)) := by kernel_rfl
  rw [key, e, hy]
  rcases hi with rfl | rfl | rfl <;> simp [up1, intAt, hk, h0, e3] <;> rfl
theorem share_ar {a b c n S : Int} (ha : 0 ≤ a) (hb : 0 ≤ b) (hc : 0 ≤ c) (hS : S = a + b + c) (h0 : 0 < S) (hn : 0 ≤ n) (hnS : n ≤ S) :
    let qa := a * n / S; let qb := b * n / S; let qc := c * n / S; let ra := a * n % S; let rb := b * n % S; let rc := c * n % S
    (0 ≤ ra ∧ ra < S) ∧ (0 ≤ rb ∧ rb < S) ∧ (0 ≤ rc ∧ rc < S) ∧ a * n = S * qa + ra ∧ b * n = S * qb + rb ∧ c * n = S * qc + rc ∧ 0 ≤ n - (qa + qb + qc) ∧ n - (qa + qb + qc) ≤ 2 ∧ S * (n - (qa + qb + qc)) = ra + rb + rc := by
  intro qa qb qc ra rb rc
  have ea : a * n = S * qa + ra := (Int.mul_ediv_add_emod (a * n) S).symm
  have eb : b * n = S * qb + rb := (Int.mul_ediv_add_emod (b * n) S).symm
  have ec : c * n = S * qc + rc := (Int.mul_ediv_add_emod (c * n) S).symm
  have a1 := Int.emod_nonneg (a * n) (Int.ne_of_gt h0)
  have b1 := Int.emod_nonneg (b * n) (Int.ne_of_gt h0)
  have c1 := Int.emod_nonneg (c * n) (Int.ne_of_gt h0)
  have a2 := Int.emod_lt_of_pos (a * n) h0
  have b2 := Int.emod_lt_of_pos (b * n) h0
  have c2 := Int.emod_lt_of_pos (c * n) h0
  have hs : S * n = a * n + b * n + c * n := by rw [hS, Int.add_mul, Int.add_mul]
  have e : S * (n - (qa + qb + qc)) = ra + rb + rc := by
    rw [Int.mul_sub, Int.mul_add, Int.mul_add]; omega
  refine ⟨⟨a1, a2⟩, ⟨b1, b2⟩, ⟨c1, c2⟩, ea, eb, ec, ?_, ?_, e⟩
  · apply Decidable.byContradiction
    intro h
    have : S * (n - (qa + qb + qc)) ≤ S * (-1) := Int.mul_le_mul_of_nonneg_left (by omega) (by omega)
    omega
  · apply Decidable.byContradiction
    intro h
    have : S * 3 ≤ S * (n - (qa + qb + qc)) := Int.mul_le_mul_of_nonneg_left (by omega) (by omega)
    omega
/-- The units that are left over, one to each of the greatest rests. -/
def more (d r0 r1 r2 : Int) (q : Int × Int × Int) : Int × Int × Int :=
  cond (decide (d = 0)) q
    (cond (decide (d = 1)) (cond (decide (r0 < r1)) (cond (decide (r1 < r2)) (q.1, q.2.1, q.2.2 + 1) (q.1, q.2.1 + 1, q.2.2)) (cond (decide (r0 < r2)) (q.1, q.2.1, q.2.2 + 1) (q.1 + 1, q.2.1, q.2.2)))
      (cond (decide (r0 < r1)) (cond (decide (r0 < r2)) (q.1, q.2.1 + 1, q.2.2 + 1) (q.1 + 1, q.2.1 + 1, q.2.2)) (cond (decide (r1 < r2)) (q.1 + 1, q.2.1, q.2.2 + 1) (q.1 + 1, q.2.1 + 1, q.2.2))))
theorem prog_more {a b c d r0 r1 r2 q0 q1 q2 : Int} (f : Nat) (y : Dat) (hd : d = 0 ∨ d = 1 ∨ d = 2) (b0 : 0 ≤ q0 ∧ q0 ≤ 1000000000) (b1 : 0 ≤ q1 ∧ q1 ≤ 1000000000) (b2 : 0 ≤ q2 ∧ q2 ≤ 1000000000)
    (hy : (y.ii 0 0, y.ii 1 0) = cond (decide (r0 < r1)) (cond (decide (r0 < r2)) (cond (decide (r1 < r2)) (2, 1) (1, 2)) (1, 0)) (cond (decide (r1 < r2)) (cond (decide (r0 < r2)) (2, 0) (0, 2)) (0, 1))) :
    l85_2 (d - 0).toNat (↑(d - 0).toNat : Int) a b c 0 0 0 r0 r1 r2 y (f + 3) 0 q0 q1 q2 = some (more d r0 r1 r2 (q0, q1, q2)) := by
  obtain ⟨h1, h2⟩ := Prod.mk.inj hy
  have w1 : IntKind.i64.wrap (0 + 1) = 1 := rfl
  have w2 : IntKind.i64.wrap (1 + 1) = 2 := rfl
  have v0 : IntKind.i64.wrap (q0 + 1) = q0 + 1 := wr (by omega) (by omega)
  have v1 : IntKind.i64.wrap (q1 + 1) = q1 + 1 := wr (by omega) (by omega)
  have v2 : IntKind.i64.wrap (q2 + 1) = q2 + 1 := wr (by omega) (by omega)
  rcases hd with rfl | rfl | rfl
  · exact lp0 (f + 2) a b c r0 r1 r2 y q0 q1 q2
  · have k : ((1 : Int) - 0).toNat = 1 := rfl
    rw [k]
    by_cases c1 : r0 < r1 <;> by_cases c2 : r0 < r2 <;> by_cases c6 : r1 < r2 <;> first | omega | skip
    all_goals
      simp only [c1, c2, c6, decide_true, decide_false, cond_true, cond_false] at h1 h2
      rw [lpS 1 0 (f + 2) a b c r0 r1 r2 y q0 q1 q2 _ (by decide) (by decide) (by decide) h1 (by decide), w1]
      have z : ∀ x0 x1 x2 : Int, l85_2 1 (↑(1 : Nat) : Int) a b c 0 0 0 r0 r1 r2 y (f + 2) 1 x0 x1 x2 = some (x0, x1, x2) := fun x0 x1 x2 => by kernel_rfl
      rw [z]
      simp [up1, more, c1, c2, c6, v0, v1, v2]
  · have k : ((2 : Int) - 0).toNat = 2 := rfl
    rw [k]
    by_cases c1 : r0 < r1 <;> by_cases c2 : r0 < r2 <;> by_cases c6 : r1 < r2 <;> first | omega | skip
    all_goals
      simp only [c1, c2, c6, decide_true, decide_false, cond_true, cond_false] at h1 h2
      rw [lpS 2 0 (f + 2) a b c r0 r1 r2 y q0 q1 q2 _ (by decide) (by decide) (by decide) h1 (by decide), w1]
      rw [lpS 2 1 (f + 1) a b c r0 r1 r2 y _ _ _ _ (by decide) (by decide) (by decide) h2 (by decide), w2]
      have z : ∀ x0 x1 x2 : Int, l85_2 2 (↑(2 : Nat) : Int) a b c 0 0 0 r0 r1 r2 y (f + 1) 2 x0 x1 x2 = some (x0, x1, x2) := fun x0 x1 x2 => by kernel_rfl
      rw [z]
      simp [up1, more, c1, c2, c6, v0, v1, v2]
theorem ref_more {a b c d r0 r1 r2 q0 q1 q2 : Int} (f : Nat) (hd : d = 0 ∨ d = 1 ∨ d = 2) (b0 : 0 ≤ q0 ∧ q0 ≤ 1000000000) (b1 : 0 ≤ q1 ∧ q1 ≤ 1000000000) (b2 : 0 ≤ q2 ∧ q2 ≤ 1000000000) (h0 : 0 ≤ r0) (h1 : 0 ≤ r1) (h2 : 0 ≤ r2) :
    ∃ x, l45_2 a b c 0 0 0 a b c (f + 3) d q0 q1 q2 r0 r1 r2 = some x ∧ (x.1, x.2.1, x.2.2.1) = more d r0 r1 r2 (q0, q1, q2) := by
  have w1 : IntKind.i64.wrap (1 - 1) = 0 := rfl
  have w2 : IntKind.i64.wrap (2 - 1) = 1 := rfl
  have v0 : IntKind.i64.wrap (q0 + 1) = q0 + 1 := wr (by omega) (by omega)
  have v1 : IntKind.i64.wrap (q1 + 1) = q1 + 1 := wr (by omega) (by omega)
  have v2 : IntKind.i64.wrap (q2 + 1) = q2 + 1 := wr (by omega) (by omega)
  have n0 : ¬ r0 < -1 := by omega
  have n1 : ¬ r1 < -1 := by omega
  have n2 : ¬ r2 < -1 := by omega
  have p0 : -1 < r0 := by omega
  have p1 : -1 < r1 := by omega
  have p2 : -1 < r2 := by omega
  rcases hd with rfl | rfl | rfl
  · exact ⟨(q0, q1, q2, r0, r1, r2), by simp [l45_2], by simp [more]⟩
  · by_cases c1 : r0 < r1 <;> by_cases c2 : r0 < r2 <;> by_cases c6 : r1 < r2 <;> first | omega | exact ⟨_, by simp [l45_2, c1, c2, c6]; rfl, by simp [more, c1, c2, c6, v0, v1, v2]⟩
  · by_cases c1 : r0 < r1 <;> by_cases c2 : r0 < r2 <;> by_cases c6 : r1 < r2 <;> first | omega | exact ⟨_, by simp [l45_2, w1, w2, c1, c2, c6, n0, n1, n2, p0, p1, p2]; rfl, by simp [more, c1, c2, c6, v0, v1, v2]⟩
theorem more_props {d r0 r1 r2 q0 q1 q2 S : Int} (hd : d = 0 ∨ d = 1 ∨ d = 2) (h0 : 0 ≤ r0 ∧ r0 < S) (h1 : 0 ≤ r1 ∧ r1 < S) (h2 : 0 ≤ r2 ∧ r2 < S) (hs : S * d = r0 + r1 + r2) :
    let X := more d r0 r1 r2 (q0, q1, q2)
    X.1 + X.2.1 + X.2.2 = q0 + q1 + q2 + d ∧ (X.1 = q0 ∨ (X.1 = q0 + 1 ∧ 0 < r0)) ∧ (X.2.1 = q1 ∨ (X.2.1 = q1 + 1 ∧ 0 < r1)) ∧ (X.2.2 = q2 ∨ (X.2.2 = q2 + 1 ∧ 0 < r2)) := by
  rcases hd with rfl | rfl | rfl
  · simp [more]
  · by_cases c1 : r0 < r1 <;> by_cases c2 : r0 < r2 <;> by_cases c6 : r1 < r2 <;> simp [more, c1, c2, c6] <;> omega
  · by_cases c1 : r0 < r1 <;> by_cases c2 : r0 < r2 <;> by_cases c6 : r1 < r2 <;> simp [more, c1, c2, c6] <;> omega
theorem one_ok {a n S q r x : Int} (ha : 0 ≤ a) (hn : 0 ≤ n) (hnS : n ≤ S) (h0 : 0 < S) (hr : 0 ≤ r ∧ r < S) (e : a * n = S * q + r) (hx : x = q ∨ (x = q + 1 ∧ 0 < r)) :
    0 ≤ q ∧ q ≤ a ∧ 0 ≤ x ∧ x ≤ a ∧ -S ≤ x * S - a * n ∧ x * S - a * n ≤ S := by
  have k1 : a * n ≤ a * S := Int.mul_le_mul_of_nonneg_left hnS ha
  have k2 : 0 ≤ a * n := Int.mul_nonneg ha hn
  have k6 : a * S = S * a := Int.mul_comm _ _
  have q0 : 0 ≤ q := by
    apply Decidable.byContradiction; intro h
    have : S * q ≤ S * (-1) := Int.mul_le_mul_of_nonneg_left (by omega) (by omega)
    omega
  have qa : q ≤ a := by
    apply Decidable.byContradiction; intro h
    have : S * (a + 1) ≤ S * q := Int.mul_le_mul_of_nonneg_left (by omega) (by omega)
    rw [Int.mul_add] at this; omega
  have qx : 0 < r → q + 1 ≤ a := fun hr0 => by
    apply Decidable.byContradiction; intro h
    have : S * a ≤ S * q := Int.mul_le_mul_of_nonneg_left (by omega) (by omega)
    omega
  rcases hx with rfl | ⟨rfl, hr0⟩
  · have k7 : x * S = S * x := Int.mul_comm _ _
    omega
  · have k7 : (q + 1) * S = S * q + S := by rw [Int.add_mul, Int.one_mul, Int.mul_comm]
    have := qx hr0
    omega
/-- The share: rounded down, and what is left over goes to the greatest rests. -/
def shr (a b c n : Int) : Int × Int × Int :=
  more (n - (a * n / (a + b + c) + b * n / (a + b + c) + c * n / (a + b + c))) (a * n % (a + b + c)) (b * n % (a + b + c)) (c * n % (a + b + c)) (a * n / (a + b + c), b * n / (a + b + c), c * n / (a + b + c))
theorem qd_eq {x n S : Int} (h0 : 0 ≤ x) (h1 : x ≤ 1000000000) (n0 : 0 ≤ n) (n1 : n ≤ 1000000000) (hS : 0 < S) (hq : 0 ≤ x * n / S) (hx : x * n / S ≤ 1000000000) : qd x n S = x * n / S ∧ rd x n S = x * n % S := by
  have m := mulb h0 h1 n0 n1
  simp only [qd, rd]
  rw [wr (n := x * n) (by omega) (by omega), Int.tdiv_eq_ediv_of_nonneg m.1, Int.tmod_eq_emod_of_nonneg m.1]
  exact ⟨wr (by omega) (by omega), rfl⟩
noncomputable def ro (a b c n S : Int) : Option (Int × Int × Int × Int × Int × Int) := o45_2 a b c 0 0 0 a b c (IntKind.i64.wrap (IntKind.i64.wrap (IntKind.i64.wrap (n - qd a n S) - qd b n S) - qd c n S)) (qd a n S) (qd b n S) (qd c n S) (rd a n S) (rd b n S) (rd c n S)
theorem m45_eq (a b c n : Int) : m45 a b c n = cond (decide (m29 a b c = 0)) (0, 0, 0) (((ro a b c n (m29 a b c)).getD default).1, ((ro a b c n (m29 a b c)).getD default).2.1, ((ro a b c n (m29 a b c)).getD default).2.2.1) := by kernel_rfl
theorem n45_eq (a b c n : Int) (h0 : m29 a b c ≠ 0) (h : (ro a b c n (m29 a b c)).isSome = true) : n45 a b c n = true := by
  have e : n45 a b c n = cond (decide (m29 a b c = 0)) true ((bif decide (m29 a b c = 0) then false else true) && ((bif decide (m29 a b c = 0) then false else true) && ((bif decide (m29 a b c = 0) then false else true) && ((bif decide (m29 a b c = 0) then false else true) && ((bif decide (m29 a b c = 0) then false else true) && ((bif decide (m29 a b c = 0) then false else true) && ((ro a b c n (m29 a b c)).isSome && true))))))) := by kernel_rfl
  rw [e, h]
  simp [h0]
theorem share_both {a b c n : Int} (ha : 0 ≤ a) (hb : 0 ≤ b) (hc : 0 ≤ c) (hle : a + b + c ≤ 1000000000) (hS : m84 a b c = a + b + c) (h0 : 0 < a + b + c) (hn : 0 ≤ n) (hnS : n ≤ a + b + c) :
    n85 a b c n = true ∧ n45 a b c n = true ∧ m85 a b c n = shr a b c n ∧ m45 a b c n = shr a b c n := by
  obtain ⟨A, B, C, ea, eb, ec, d0, d2, es⟩ := share_ar ha hb hc rfl h0 hn hnS
  have oa := one_ok ha hn hnS h0 A ea (Or.inl rfl)
  have ob := one_ok hb hn hnS h0 B eb (Or.inl rfl)
  have oc := one_ok hc hn hnS h0 C ec (Or.inl rfl)
  obtain ⟨qa, ra⟩ := qd_eq (x := a) (n := n) (S := a + b + c) ha (by omega) hn (by omega) h0 oa.1 (by omega)
  obtain ⟨qb, rb⟩ := qd_eq (x := b) (n := n) (S := a + b + c) hb (by omega) hn (by omega) h0 ob.1 (by omega)
  obtain ⟨qc, rc⟩ := qd_eq (x := c) (n := n) (S := a + b + c) hc (by omega) hn (by omega) h0 oc.1 (by omega)
  have h19 : m29 a b c = a + b + c := hS
  have hd : dd a b c n (a + b + c) = n - (a * n / (a + b + c) + b * n / (a + b + c) + c * n / (a + b + c)) := by
    simp only [dd, m84, qa, qb, qc]
    generalize a * n / (a + b + c) = u at *
    generalize b * n / (a + b + c) = v at *
    generalize c * n / (a + b + c) = w at *
    rw [wr (n := u + v) (by omega) (by omega), wr (n := u + v + w) (by omega) (by omega)]
    exact wr (by omega) (by omega)
  have hd' : IntKind.i64.wrap (IntKind.i64.wrap (IntKind.i64.wrap (n - qd a n (a + b + c)) - qd b n (a + b + c)) - qd c n (a + b + c)) = n - (a * n / (a + b + c) + b * n / (a + b + c) + c * n / (a + b + c)) := by
    rw [qa, qb, qc]
    generalize a * n / (a + b + c) = u at *
    generalize b * n / (a + b + c) = v at *
    generalize c * n / (a + b + c) = w at *
    rw [wr (n := n - u) (by omega) (by omega), wr (n := n - u - v) (by omega) (by omega), wr (n := n - u - v - w) (by omega) (by omega)]
    omega
  have hdd : n - (a * n / (a + b + c) + b * n / (a + b + c) + c * n / (a + b + c)) = 0 ∨ n - (a * n / (a + b + c) + b * n / (a + b + c) + c * n / (a + b + c)) = 1 ∨ n - (a * n / (a + b + c) + b * n / (a + b + c) + c * n / (a + b + c)) = 2 := by omega
  obtain ⟨y, hy, hord⟩ := sort3 (a * n % (a + b + c)) (b * n % (a + b + c)) (c * n % (a + b + c))
  have hlp : lp a b c n (a + b + c) y = some (shr a b c n) := by
    rw [lp, hd, qa, qb, qc, ra, rb, rc]
    exact prog_more _ y hdd ⟨oa.1, by omega⟩ ⟨ob.1, by omega⟩ ⟨oc.1, by omega⟩ hord
  have hsrt : srt (rd a n (a + b + c)) (rd b n (a + b + c)) (rd c n (a + b + c)) = some y := by rw [ra, rb, rc]; exact hy
  obtain ⟨x, hx, hx3⟩ := ref_more (a := a) (b := b) (c := c) (r0 := a * n % (a + b + c)) (r1 := b * n % (a + b + c)) (r2 := c * n % (a + b + c)) (((n - (a * n / (a + b + c) + b * n / (a + b + c) + c * n / (a + b + c))).toNat + a.toNat + b.toNat + c.toNat + (0 : Int).toNat + (0 : Int).toNat + (0 : Int).toNat + a.toNat + b.toNat + c.toNat + (a * n / (a + b + c)).toNat + (b * n / (a + b + c)).toNat + (c * n / (a + b + c)).toNat + (a * n % (a + b + c)).toNat + (b * n % (a + b + c)).toNat + (c * n % (a + b + c)).toNat) + 5) hdd ⟨oa.1, by omega⟩ ⟨ob.1, by omega⟩ ⟨oc.1, by omega⟩ A.1 B.1 C.1
  have hro : ro a b c n (a + b + c) = some x := by
    rw [ro, hd', qa, qb, qc, ra, rb, rc]
    exact hx
  refine ⟨n85_eq a b c n (a + b + c) hS (by omega) y hsrt (by rw [hd]; omega) (by rw [hlp]; rfl), n45_eq a b c n (by rw [h19]; omega) (by rw [h19, hro]; rfl), ?_, ?_⟩
  · rw [m85_eq, hS, hsrt]
    simp only [Option.getD_some, hlp]
    rw [decide_eq_false (by omega), cond_false]
  · rw [m45_eq, h19, hro, decide_eq_false (by omega)]
    simp only [Option.getD_some, cond_false]
    exact hx3
theorem shr_ok {a b c n : Int} (ha : 0 ≤ a) (hb : 0 ≤ b) (hc : 0 ≤ c) (h0 : 0 < a + b + c) (hn : 0 ≤ n) (hnS : n ≤ a + b + c) :
    let X := shr a b c n
    X.1 + X.2.1 + X.2.2 = n ∧ (0 ≤ X.1 ∧ X.1 ≤ a) ∧ (0 ≤ X.2.1 ∧ X.2.1 ≤ b) ∧ (0 ≤ X.2.2 ∧ X.2.2 ≤ c) ∧
    (-(a + b + c) ≤ X.1 * (a + b + c) - a * n ∧ X.1 * (a + b + c) - a * n ≤ a + b + c) ∧ (-(a + b + c) ≤ X.2.1 * (a + b + c) - b * n ∧ X.2.1 * (a + b + c) - b * n ≤ a + b + c) ∧ (-(a + b + c) ≤ X.2.2 * (a + b + c) - c * n ∧ X.2.2 * (a + b + c) - c * n ≤ a + b + c) := by
  obtain ⟨A, B, C, ea, eb, ec, d0, d2, es⟩ := share_ar ha hb hc rfl h0 hn hnS
  have hdd : n - (a * n / (a + b + c) + b * n / (a + b + c) + c * n / (a + b + c)) = 0 ∨ n - (a * n / (a + b + c) + b * n / (a + b + c) + c * n / (a + b + c)) = 1 ∨ n - (a * n / (a + b + c) + b * n / (a + b + c) + c * n / (a + b + c)) = 2 := by omega
  obtain ⟨p1, p2, p6, p7⟩ := more_props (q0 := a * n / (a + b + c)) (q1 := b * n / (a + b + c)) (q2 := c * n / (a + b + c)) hdd A B C es
  have A' := one_ok ha hn hnS h0 A ea p2
  have B' := one_ok hb hn hnS h0 B eb p6
  have C' := one_ok hc hn hnS h0 C ec p7
  intro X
  refine ⟨?_, ⟨A'.2.2.1, A'.2.2.2.1⟩, ⟨B'.2.2.1, B'.2.2.2.1⟩, ⟨C'.2.2.1, C'.2.2.2.1⟩, A'.2.2.2.2, B'.2.2.2.2, C'.2.2.2.2⟩
  have : X.1 + X.2.1 + X.2.2 = _ := p1
  rw [this]; omega
theorem cc26 {x y z : Int} (h0 : 0 ≤ x) (h1 : 0 ≤ y) (h2 : 0 ≤ z) (h : x + y + z ≤ 1000000000) : m29 x y z = x + y + z ∧ m26 x y z = 0 := by
  have e : m29 x y z = x + y + z := by
    simp only [m29]
    rw [wr (n := x + y) (by omega) (by omega), wr (by omega) (by omega)]
  refine ⟨e, ?_⟩
  have k : ∀ u : Int, 0 ≤ u → u ≤ 1000000000 → m32 u 0 1000000000 = true := fun u a b => by simp [m32, a, b]
  have d : decide (1000000000 < x + y + z) = false := decide_eq_false (by omega)
  simp only [m26, k x h0 (by omega), k y h1 (by omega), k z h2 (by omega), e, d]
  rfl
end Go.Proofs.Ytmndejpcpfkajaa

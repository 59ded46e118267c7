/-
  The law of depths: plain law. Conditions: none.
-/
import Derived.Test.YtchhhoamnagbfaaDoorAPAwake
namespace Go.Proofs.YtchhhoamnagbfaaDoor
open Go Go.Sy
set_option linter.unusedVariables false
set_option linter.unusedSimpArgs false
set_option maxRecDepth 100000
theorem app_zero (e d : Dat) : e.app 0 d = d := by
  have h : ∀ q : Nat, Nat.blt q 0 = false := fun q => rfl
  cases d
  simp only [Dat.app, h, cond_false, Nat.sub_zero]
theorem copy_eq (n : Nat) (d : Dat) : m13 n d = (n, d) := by
  simp only [m13, Nat.zero_add, app_zero]
theorem ediv_alike {a b a' b' : Int} (hb : 0 < b) (hb' : 0 < b') (h : a * b' = a' * b) : a / b = a' / b' := by
  have e1 : a / b = (a * b') / (b * b') := (Int.mul_ediv_mul_of_pos_left a b hb').symm
  have e2 : a' / b' = (a' * b) / (b' * b) := (Int.mul_ediv_mul_of_pos_left a' b' hb).symm
  rw [e1, e2, h, Int.mul_comm b b']
def RAt (n : Nat) (d : Dat) (x num den : Int) : Prop := ∃ r, 1 ≤ r ∧ r < n ∧ d.ii (r - 1) 0 ≤ x ∧ x ≤ d.ii r 0 ∧ num = d.ii (r - 1) 1 * (d.ii r 0 - d.ii (r - 1) 0) + (d.ii r 1 - d.ii (r - 1) 1) * (x - d.ii (r - 1) 0) ∧ den = d.ii r 0 - d.ii (r - 1) 0
theorem ref_run {n : Nat} {d : Dat} (T : Trk n d) {x : Int} (hx : x ≤ d.ii (n - 1) 0) : ∀ (k i f : Nat), i + k = n → k < f → 1 ≤ i → 0 < k → d.ii (i - 1) 0 ≤ x → ∃ num den, l55_0 n d x f (i : Int) = some (true, (num, den), default) ∧ RAt n d x num den
  | 0, i, f, _, _, _, h, _ => absurd h (Nat.lt_irrefl _)
  | k + 1, i, f, hi, hf, h1, _, h0 => by
    obtain ⟨f, rfl⟩ : ∃ f', f = f' + 1 := ⟨f - 1, by omega⟩
    have few := T.few
    have hlt : i < n := by omega
    have t1 : IntKind.i64.wrap ((i : Int) - 1) = (i : Int) - 1 := wr (by omega) (by omega)
    have t2 : ((i : Int) - 1).toNat = i - 1 := by omega
    have z1 : decide (0 ≤ (i : Int) - 1 ∧ (i : Int) - 1 < (n : Int)) = true := decide_eq_true ⟨by omega, by omega⟩
    by_cases hh : x ≤ d.ii i 0
    · have a := T.dep (i - 1) (by omega); have b := T.dep i hlt
      have q1 := T.sec (i - 1) (by omega); have q2 := T.sec i hlt
      have up := T.lt (show i - 1 < i by omega) hlt
      have w1 : IntKind.i64.wrap (d.ii i 0 - d.ii (i - 1) 0) = d.ii i 0 - d.ii (i - 1) 0 := wr (by omega) (by omega)
      have w2 : IntKind.i64.wrap (d.ii i 1 - d.ii (i - 1) 1) = d.ii i 1 - d.ii (i - 1) 1 := wr (by omega) (by omega)
      have w3 : IntKind.i64.wrap (x - d.ii (i - 1) 0) = x - d.ii (i - 1) 0 := wr (by omega) (by omega)
      have p1 := mulb a.1 a.2 (show 0 ≤ d.ii i 0 - d.ii (i - 1) 0 by omega) (show d.ii i 0 - d.ii (i - 1) 0 ≤ 1000001 by omega)
      have p2 := mulb b.1 b.2 (show 0 ≤ x - d.ii (i - 1) 0 by omega) (show x - d.ii (i - 1) 0 ≤ 1000001 by omega)
      have p3 := mulb a.1 a.2 (show 0 ≤ x - d.ii (i - 1) 0 by omega) (show x - d.ii (i - 1) 0 ≤ 1000001 by omega)
      have e : (d.ii i 1 - d.ii (i - 1) 1) * (x - d.ii (i - 1) 0) = d.ii i 1 * (x - d.ii (i - 1) 0) - d.ii (i - 1) 1 * (x - d.ii (i - 1) 0) := Int.sub_mul _ _ _
      refine ⟨_, _, ?_, i, h1, hlt, h0, hh, rfl, rfl⟩
      simp only [l55_0, cdl hlt, cdd hlt, t1, t2, z1, w1, w2, w3, Int.toNat_natCast, decide_eq_true hh, cond_true]
      rw [wr (n := d.ii (i - 1) 1 * (d.ii i 0 - d.ii (i - 1) 0)) (by omega) (by omega), wr (n := (d.ii i 1 - d.ii (i - 1) 1) * (x - d.ii (i - 1) 0)) (by omega) (by omega), wr (by omega) (by omega)]
    · have hk : 0 < k := by
        apply Decidable.byContradiction
        intro hk
        have : i = n - 1 := by omega
        subst this
        exact hh hx
      obtain ⟨num, den, g1, g2⟩ := ref_run T hx k (i + 1) f (by omega) (by omega) (by omega) hk (by rw [Nat.add_sub_cancel]; omega)
      refine ⟨num, den, ?_, g2⟩
      simp only [l55_0, cdl hlt, cdd hlt, Int.toNat_natCast, decide_eq_false hh, wrS hlt (by omega), cond_true, cond_false]
      exact g1
theorem ref_at {n : Nat} {d : Dat} (T : Trk n d) {x : Int} (h0 : d.ii 0 0 ≤ x) (hx : x ≤ d.ii (n - 1) 0) : n55 n d x = true ∧ RAt n d x (m55 n d x).1 (m55 n d x).2 := by
  have two := T.two; have few := T.few
  have h := fun F (hF : n < F) => ref_run T hx (n - 1) 1 F (by omega) (by omega) (by decide) (by omega) h0
  obtain ⟨num, den, o, g⟩ : ∃ num den, o55_0 n d x 1 = some (true, (num, den), default) ∧ RAt n d x num den := by
    unfold o55_0
    generalize x.toNat = y1
    exact h _ (by omega)
  exact ⟨by simp only [n55, o]; rfl, by simp only [m55, o, Option.getD_some, cond_true]; exact g⟩
theorem at_ref {n : Nat} {d : Dat} (T : Trk n d) {x num den num' den' : Int} (h : At n d x num den) (h' : RAt n d x num' den') : num * den' = num' * den ∧ (1 ≤ den' ∧ den' ≤ 1000001) := by
  obtain ⟨r, r1, rn, s1, s2, rfl, rfl⟩ := h'
  have up := T.lt (show r - 1 < r by omega) rn
  have q1 := T.sec (r - 1) (by omega); have q2 := T.sec r rn
  refine ⟨?_, by omega⟩
  rcases h with ⟨k, hk, rfl, rfl, rfl⟩ | ⟨q, hq, k1, k2, rfl, rfl⟩
  · have hkr : k = r - 1 ∨ k = r := by
      rcases Nat.lt_trichotomy k (r - 1) with h | h | h
      · have := T.lt h (by omega); omega
      · exact .inl h
      · by_cases h2 : k ≤ r
        · exact .inr (by omega)
        · have := T.lt (show r < k by omega) hk; omega
    rcases hkr with rfl | rfl
    · rw [Int.sub_self, Int.mul_zero, Int.add_zero, Int.mul_one]
    · rw [Int.mul_one, Int.sub_mul]; omega
  · have hqr : q = r - 1 := by
      rcases Nat.lt_trichotomy q (r - 1) with h | h | h
      · have := T.le (show q + 1 ≤ r - 1 by omega) (by omega); omega
      · exact h
      · have := T.le (show r ≤ q by omega) (by omega); omega
    subst hqr
    rw [show r - 1 + 1 = r by omega]
    congr 1
    rw [Int.sub_mul, Int.mul_sub, Int.mul_sub, Int.mul_sub, Int.mul_sub]
    omega
theorem floor_eq {a b : Int} (hb : 0 < b) (hb2 : b ≤ 1000001) (h0 : -30000030000 ≤ a) (h1 : a ≤ 30000030000) : m91 a b = a / b := by
  by_cases ha : 0 ≤ a
  · have q0 := Int.ediv_nonneg ha (show 0 ≤ b by omega)
    have q1 := Int.ediv_le_self b ha
    have hm : ¬ a.tmod b < 0 := by have := Int.tmod_nonneg b ha; omega
    simp only [m91, decide_eq_false hm, cond_false, Int.tdiv_eq_ediv_of_nonneg ha]
    exact wr (by omega) (by omega)
  · obtain ⟨c, rfl⟩ : ∃ c, a = -c := ⟨-a, by omega⟩
    have hc : 0 ≤ c := by omega
    have q0 := Int.ediv_nonneg hc (show 0 ≤ b by omega)
    have q1 := Int.ediv_le_self b hc
    have e := Int.mul_ediv_add_emod c b
    have r0 := Int.emod_nonneg c (show b ≠ 0 by omega)
    have r1 := Int.emod_lt_of_pos c hb
    simp only [m91, Int.neg_tdiv, Int.neg_tmod, Int.tdiv_eq_ediv_of_nonneg hc, Int.tmod_eq_emod_of_nonneg hc]
    by_cases hr : c % b = 0
    · rw [hr] at e ⊢
      simp only [Int.neg_zero, Int.lt_irrefl, decide_false, cond_false]
      rw [wr (by omega) (by omega)]
      refine (((Int.ediv_emod_unique (r := 0) hb).2 ⟨?_, by omega, hb⟩).1).symm
      rw [Int.mul_neg]; omega
    · simp only [decide_eq_true (show -(c % b) < 0 by omega), cond_true]
      rw [wr (n := -(c / b)) (by omega) (by omega), wr (by omega) (by omega)]
      refine (((Int.ediv_emod_unique (r := b - c % b) hb).2 ⟨?_, by omega, by omega⟩).1).symm
      rw [Int.mul_sub, Int.mul_neg]; omega
theorem ceil_eq {X W : Int} (hW : 0 < W) : (X + W - 1) / W = -((-X) / W) := by
  have e := Int.mul_ediv_add_emod (-X) W
  have r0 := Int.emod_nonneg (-X) (show W ≠ 0 by omega)
  have r1 := Int.emod_lt_of_pos (-X) hW
  refine ((Int.ediv_emod_unique (r := W - 1 - (-X) % W) hW).2 ⟨?_, by omega, by omega⟩).1
  rw [Int.mul_neg]; omega
theorem round_alike {X W X' W' : Int} (hX : 0 ≤ X ∧ X ≤ 30000030000) (hW : 1 ≤ W ∧ W ≤ 1000001) (hX' : 0 ≤ X' ∧ X' ≤ 30000030000) (hW' : 1 ≤ W' ∧ W' ≤ 1000001) (h : X * W' = X' * W) : m54 X W = m56 X' W' := by
  have q0 := Int.ediv_nonneg hX.1 (show 0 ≤ W by omega)
  have q1 := Int.ediv_le_self W hX.1
  have q2 := Int.ediv_nonneg (show 0 ≤ X + W - 1 by omega) (show 0 ≤ W by omega)
  have q3 := Int.ediv_le_self W (show 0 ≤ X + W - 1 by omega)
  have e54 : m54 X W = (X / W, (X + W - 1) / W) := by
    simp only [m54]
    rw [wr (n := X + W) (by omega) (by omega), wr (n := X + W - 1) (by omega) (by omega), Int.tdiv_eq_ediv_of_nonneg hX.1, Int.tdiv_eq_ediv_of_nonneg (by omega), wr (n := X / W) (by omega) (by omega), wr (n := (X + W - 1) / W) (by omega) (by omega)]
  have c := ceil_eq (X := X) (show 0 < W by omega)
  have a1 := ediv_alike (show 0 < W by omega) (show 0 < W' by omega) h
  have a2 := ediv_alike (a := -X) (a' := -X') (show 0 < W by omega) (show 0 < W' by omega) (by rw [Int.neg_mul, Int.neg_mul, h])
  rw [e54]
  simp only [m56, m92]
  rw [wr (n := 0 - X') (by omega) (by omega), show (0 : Int) - X' = -X' from Int.zero_sub X', floor_eq (by omega) (by omega) (by omega) (by omega), floor_eq (by omega) (by omega) (by omega) (by omega), ← a1, ← a2, Int.zero_sub, ← c, wr (by omega) (by omega)]
theorem RAt.bnd {n : Nat} {d : Dat} (T : Trk n d) {x num den : Int} (h : RAt n d x num den) : (1 ≤ den ∧ den ≤ 1000001) ∧ 0 ≤ num ∧ num ≤ 30000030000 := by
  obtain ⟨r, r1, rn, s1, s2, rfl, rfl⟩ := h
  have up := T.lt (show r - 1 < r by omega) rn
  have q1 := T.sec (r - 1) (by omega); have q2 := T.sec r rn
  have a := T.dep (r - 1) (by omega); have b := T.dep r rn
  have p1 := mulb a.1 a.2 (show 0 ≤ d.ii r 0 - x by omega) (Int.le_refl _)
  have p2 := mulb b.1 b.2 (show 0 ≤ x - d.ii (r - 1) 0 by omega) (Int.le_refl _)
  have e : d.ii (r - 1) 1 * (d.ii r 0 - d.ii (r - 1) 0) + (d.ii r 1 - d.ii (r - 1) 1) * (x - d.ii (r - 1) 0) = d.ii (r - 1) 1 * (d.ii r 0 - x) + d.ii r 1 * (x - d.ii (r - 1) 0) := by
    rw [Int.sub_mul, Int.mul_sub, Int.mul_sub, Int.mul_sub, Int.mul_sub]; omega
  rw [e]
  omega
theorem depths_ok (n : Nat) (d : Dat) (x : Int) : n3 n d x = true ∧ m3 n d x = true := by
  by_cases hs : m11 n d = true
  · have hn : n ≤ 202 := by
      simp only [m11] at hs
      by_cases h1 : (n : Int) ≤ 12
      · omega
      · by_cases h2 : (200 : Int) < (n : Int)
        · have : decide ((n : Int) ≤ 202) = true := by simpa [h1, h2] using hs
          have := of_decide_eq_true this; omega
        · simp [h1, h2] at hs
    obtain ⟨c1, c2, c3, c4⟩ := check_ok (n := n) (d := d) (by omega)
    have n13t : n13 n d = true := by simp only [n13, Nat.zero_add, decide_eq_true (show n ≤ 1073741824 by omega), Nat.le_refl, decide_true]; rfl
    have m16m : m16 x (d.ii 0 0) (d.ii (n - 1) 0) = m52 x (d.ii 0 0) (d.ii (n - 1) 0) := rfl
    by_cases h0 : m15 n d = 0
    · have P := c4.1 h0
      have T := P.trk
      have two := P.two
      rw [h0] at c3
      have w1 : IntKind.i64.wrap ((n : Int) - 1) = (n : Int) - 1 := wr (by omega) (by omega)
      have t1 : ((n : Int) - 1).toNat = n - 1 := by omega
      have z0 : decide ((0 : Int) ≤ (0 : Int) ∧ (0 : Int) < (n : Int)) = true := decide_eq_true ⟨by omega, by omega⟩
      have z1 : decide (0 ≤ (n : Int) - 1 ∧ (n : Int) - 1 < (n : Int)) = true := decide_eq_true ⟨by omega, by omega⟩
      cases hb : m52 x (d.ii 0 0) (d.ii (n - 1) 0) with
      | false =>
        have e12 : m12 n d x = (0, 0, 2) := by simp only [m12, h0, w1, t1, hb, decide_true, cond_true, cond_false]
        have n12t : n12 n d x = true := by simp only [n12, c1, h0, w1, t1, hb, z0, z1, decide_true, cond_true, cond_false]; rfl
        constructor
        · simp only [n3, n10_t, m10_t, hs, n13t, copy_eq, n12t, c2, c1, c3, h0, w1, t1, z0, z1, m16m, hb, decide_true, cond_true, cond_false, Bool.and_true, Bool.and_self]
        · simp only [m3, m10_t, hs, copy_eq, c3, h0, w1, t1, m16m, hb, e12, decide_true, cond_true, cond_false]
      | true =>
        obtain ⟨r0, r1⟩ := m52_iff.1 hb
        obtain ⟨a1, a2⟩ := at_ok T r0 r1
        obtain ⟨b1, b2⟩ := ref_at T r0 r1
        have A := a2.bnd T
        have B := b2.bnd T
        obtain ⟨al, _⟩ := at_ref T a2 b2
        have rd := round_alike ⟨A.2.1, by omega⟩ A.1 B.2 B.1 al
        have e12 : m12 n d x = ((m54 (m53 n d x).1 (m53 n d x).2).1, (m54 (m53 n d x).1 (m53 n d x).2).2, 0) := by simp only [m12, h0, w1, t1, hb, decide_true, cond_true, cond_false]
        have n54t : n54 (m53 n d x).1 (m53 n d x).2 = true := by simp only [n54, decide_eq_false (show ¬ (m53 n d x).2 = 0 by omega)]; rfl
        have n12t : n12 n d x = true := by simp only [n12, c1, h0, w1, t1, hb, z0, z1, a1, n54t, decide_true, cond_true, cond_false]; rfl
        have n17t : n17 n d x = true := by simp only [n17, b1, n56, n91, n92, decide_eq_false (show ¬ (m55 n d x).2 = 0 by omega)]; rfl
        constructor
        · simp only [n3, n10_t, m10_t, hs, n13t, copy_eq, n12t, c2, c1, c3, h0, w1, t1, z0, z1, m16m, hb, e12, n17t, decide_true, cond_true, cond_false, Bool.and_true, Bool.and_self]
        · simp only [m3, m10_t, hs, copy_eq, c3, h0, w1, t1, m16m, hb, e12, m17, rd, decide_true, cond_true, cond_false]
    · have e12 : m12 n d x = (0, 0, m15 n d) := by simp only [m12, decide_eq_false h0, cond_true, cond_false]
      have n12t : n12 n d x = true := by simp only [n12, c1, decide_eq_false h0, cond_true, cond_false]; rfl
      constructor
      · simp only [n3, n10_t, m10_t, hs, n13t, copy_eq, n12t, c2, c1, c3, decide_eq_false h0, decide_true, cond_true, cond_false, Bool.and_true, Bool.and_self]
      · simp only [m3, m10_t, hs, copy_eq, c3, decide_eq_false h0, e12, decide_true, cond_true, cond_false]
  · have hs : m11 n d = false := by simpa using hs
    exact ⟨by simp only [n3, n10_t, m10_t, hs, cond_true, cond_false, Bool.and_true], by simp only [m3, m10_t, hs, cond_true, cond_false]⟩
end Go.Proofs.YtchhhoamnagbfaaDoor

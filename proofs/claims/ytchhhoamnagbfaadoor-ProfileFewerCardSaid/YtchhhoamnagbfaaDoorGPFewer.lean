/-
  The law of fewer points: plain law. Conditions: none.
-/
import Derived.Test.YtchhhoamnagbfaaDoorGPDepths
namespace Go.Proofs.YtchhhoamnagbfaaDoor
open Go Go.Sy
set_option linter.unusedVariables false
set_option linter.unusedSimpArgs false
set_option maxRecDepth 100000
attribute [local simp] brk
section
variable {n : Nat} {d : Dat} {M : Int} {c : Nat} {D : Dat}
noncomputable def far0 (n : Nat) (D : Dat) (i : Nat) : Option (Bool × (Int × Int) × Unit) := cond (bif m52 (D.ii i 0) 0 ((n : Int) - 1) then false else true) (some (true, (0, 6), default)) none
noncomputable def far2 (D : Dat) (i : Nat) : Option (Bool × (Int × Int) × Unit) := cond (bif decide (0 < i) then decide (D.ii i 0 ≤ D.ii (i - 1) 0) else false) (some (true, (0, 9), default)) none
noncomputable def far4 (n : Nat) (d : Dat) (M : Int) (D : Dat) (i : Nat) : Option (Bool × (Int × Int) × Unit) := cond (bif decide (0 < i) then (bif m84 n d (D.ii (i - 1) 0) (D.ii i 0) M then false else true) else false) (some (true, (0, 26), default)) none
theorem l45a (hn : n ≤ 200) (hc : c ≤ 200) : o45_0 n d M c D D (c : Int) 0 = some (first (far0 n D) (false, default, ()) c 0) :=
  loop_first (n := c) (l := l45_0 n d M c D D (c : Int)) (by omega) (fun f i hi => by
    have w : IntKind.i64.wrap ((n : Int) - 1) = (n : Int) - 1 := wr (by omega) (by omega)
    simp only [l45_0, cdl hi, cdd hi, cond_true, Int.toNat_natCast, w, far0]
    cases m52 (D.ii i 0) 0 ((n : Int) - 1) <;> rfl) (fun f => by simp only [l45_0, cdn]; rfl) c 0 _ (by omega) (by omega)
theorem l45b (hn : n ≤ 200) (hc : c ≤ 200) : o45_2 n d M c D (c : Int) 0 = some (first (far2 D) (false, default, ()) c 0) :=
  loop_first (n := c) (l := l45_2 n d M c D (c : Int)) (by omega) (fun f i hi => by
    have w : IntKind.i64.wrap ((i : Int) - 1) = (i : Int) - 1 := wr (by omega) (by omega)
    have t : ((i : Int) - 1).toNat = i - 1 := by omega
    by_cases h0 : 0 < i
    · have z : decide ((0 : Int) < (i : Int)) = true := decide_eq_true (by omega)
      have z2 : decide (0 ≤ (i : Int) - 1 ∧ (i : Int) - 1 < (c : Int)) = true := decide_eq_true ⟨by omega, by omega⟩
      simp only [l45_2, cdl hi, cdd hi, cond_true, Int.toNat_natCast, far2, w, t, z, z2, decide_eq_true h0, Bool.cond_self]
      cases decide (D.ii i 0 ≤ D.ii (i - 1) 0) <;> rfl
    · have z : decide ((0 : Int) < (i : Int)) = false := decide_eq_false (by omega)
      simp only [l45_2, cdl hi, cdd hi, cond_true, cond_false, Int.toNat_natCast, far2, w, t, z, decide_eq_false h0]; rfl) (fun f => by simp only [l45_2, cdn]; rfl) c 0 _ (by omega) (by omega)
theorem l45c (P : Pts n d) (hM : 0 ≤ M ∧ M ≤ 30000) (hc : c ≤ 200) (h0 : ∀ q, q < c → 0 ≤ D.ii q 0 ∧ D.ii q 0 < (n : Int)) (h1 : ∀ q, q + 1 < c → D.ii q 0 < D.ii (q + 1) 0) : o45_4 n d M c D (c : Int) 0 = some (first (far4 n d M D) (false, default, ()) c 0) :=
  loop_first (n := c) (l := l45_4 n d M c D (c : Int)) (by omega) (fun f i hi => by
    have few := P.few
    have w : IntKind.i64.wrap ((i : Int) - 1) = (i : Int) - 1 := wr (by omega) (by omega)
    have t : ((i : Int) - 1).toNat = i - 1 := by omega
    by_cases hz : 0 < i
    · have z : decide ((0 : Int) < (i : Int)) = true := decide_eq_true (by omega)
      have z2 : decide (0 ≤ (i : Int) - 1 ∧ (i : Int) - 1 < (c : Int)) = true := decide_eq_true ⟨by omega, by omega⟩
      have nn : n84 n d (D.ii (i - 1) 0) (D.ii i 0) M = true := by
        have u0 := h0 (i - 1) (by omega); have u1 := h0 i hi
        have u2 := h1 (i - 1) (by omega)
        rw [show i - 1 + 1 = i by omega] at u2
        have := (allow_ok P hM (i := (D.ii (i - 1) 0).toNat) (j := (D.ii i 0).toNat) (by omega) (by omega)).1
        rwa [Int.toNat_of_nonneg u0.1, Int.toNat_of_nonneg u1.1] at this
      simp only [l45_4, cdl hi, cdd hi, cond_true, Int.toNat_natCast, far4, w, t, z, z2, nn, decide_eq_true hz, Bool.cond_self]
      cases m84 n d (D.ii (i - 1) 0) (D.ii i 0) M <;> rfl
    · have z : decide ((0 : Int) < (i : Int)) = false := decide_eq_false (by omega)
      simp only [l45_4, cdl hi, cdd hi, cond_true, cond_false, Int.toNat_natCast, far4, w, t, z, decide_eq_false hz]; rfl) (fun f => by simp only [l45_4, cdn]; rfl) c 0 _ (by omega) (by omega)
theorem kept_check (P : Pts n d) (hM : 0 ≤ M ∧ M ≤ 30000) (hc : c ≤ 200) : n45 n d M c D = true ∧ ((m45 n d M c D).2 = 0 → (m45 n d M c D).1 = (c : Int) ∧ Idx n c D ∧ ∀ q, q + 1 < c → Ok d M (K D q) (K D (q + 1))) := by
  have two := P.two; have few := P.few
  obtain ⟨c1, _, _, c4⟩ := check_ok (n := n) (d := d) (by omega)
  have c4 := c4.2 P
  have y20 : m69 M = true := m52_iff.2 hM
  have y16 : m81 n d M = 0 := by simp only [m81, c4, y20]; rfl
  have x16 : n81 n d M = true := by simp only [n81, c1]; rfl
  have wn : IntKind.i64.wrap ((n : Int) - 1) = (n : Int) - 1 := wr (by omega) (by omega)
  have wc : IntKind.i64.wrap ((c : Int) - 1) = (c : Int) - 1 := wr (by omega) (by omega)
  have tc : ((c : Int) - 1).toNat = c - 1 := by omega
  have dd0 : decide ((0 : Int) = 0) = true := rfl
  rcases first_cases (g := far0 n D) (e := (false, default, ())) c 0 with ⟨j, b, _, hj, hg, _, hb⟩ | ⟨hn0, hb⟩
  · have e : b = (true, (0, 6), default) := by
      simp only [far0] at hg
      revert hg
      cases (bif m52 (D.ii j 0) 0 ((n : Int) - 1) then false else true) <;> intro hg
      · cases hg
      · exact (Option.some.inj hg).symm
    have hl := l45a (M := M) (d := d) few hc (D := D)
    rw [hb, e] at hl
    refine ⟨by simp only [n45, x16, y16, hl, dd0, decide_true, Option.getD_some, Option.isSome_some, cond_true, cond_false, Bool.true_and, Bool.and_true], fun h => ?_⟩
    simp only [m45, y16, hl, dd0, decide_true, Option.getD_some, cond_true, cond_false] at h
    exact absurd h (by decide)
  · have r0 : ∀ q, q < c → 0 ≤ D.ii q 0 ∧ D.ii q 0 < (n : Int) := fun q hq => by
      have := hn0 q (Nat.zero_le _) (by omega)
      simp only [far0] at this
      cases hh : m52 (D.ii q 0) 0 ((n : Int) - 1) with
      | false => rw [hh] at this; cases this
      | true => have := m52_iff.1 hh; omega
    have hl := l45a (M := M) (d := d) few hc (D := D)
    rw [hb] at hl
    rcases first_cases (g := far2 D) (e := (false, default, ())) c 0 with ⟨j, b, _, hj, hg, _, hb2⟩ | ⟨hn2, hb2⟩
    · have e : b = (true, (0, 9), default) := by
        simp only [far2] at hg
        revert hg
        cases (bif decide (0 < j) then decide (D.ii j 0 ≤ D.ii (j - 1) 0) else false) <;> intro hg
        · cases hg
        · exact (Option.some.inj hg).symm
      have hl2 := l45b (M := M) (d := d) few hc (D := D)
      rw [hb2, e] at hl2
      refine ⟨by simp only [n45, x16, y16, hl, hl2, dd0, decide_true, Option.getD_some, Option.isSome_some, cond_true, cond_false, Bool.true_and, Bool.and_true], fun h => ?_⟩
      simp only [m45, y16, hl, hl2, dd0, decide_true, Option.getD_some, cond_true, cond_false] at h
      exact absurd h (by decide)
    · have r1 : ∀ q, q + 1 < c → D.ii q 0 < D.ii (q + 1) 0 := fun q hq => by
        have := hn2 (q + 1) (Nat.zero_le _) (by omega)
        simp only [far2, Nat.add_sub_cancel, decide_eq_true (Nat.succ_pos q), cond_true] at this
        by_cases hh : D.ii (q + 1) 0 ≤ D.ii q 0
        · rw [decide_eq_true hh] at this; cases this
        · omega
      have hl2 := l45b (M := M) (d := d) few hc (D := D)
      rw [hb2] at hl2
      have hl4 := l45c P hM hc r0 r1
      by_cases hc0 : (c : Int) = 0
      · refine ⟨by simp only [n45, x16, y16, hl, hl2, dd0, decide_eq_true hc0, decide_true, Option.getD_some, Option.isSome_some, cond_true, cond_false, Bool.true_and, Bool.and_true], fun h => ?_⟩
        simp only [m45, y16, hl, hl2, dd0, decide_eq_true hc0, decide_true, Option.getD_some, cond_true, cond_false] at h
        exact absurd h (by decide)
      · have z1 : decide ((0 : Int) ≤ (0 : Int) ∧ (0 : Int) < (c : Int)) = true := decide_eq_true (by omega)
        have z2 : decide (0 ≤ (c : Int) - 1 ∧ (c : Int) - 1 < (c : Int)) = true := decide_eq_true (by omega)
        by_cases h0 : D.ii 0 0 = 0
        · by_cases h1 : D.ii (c - 1) 0 = (n : Int) - 1
          · have I : Idx n c D := ⟨by omega, r0, r1, h0, h1⟩
            rcases first_cases (g := far4 n d M D) (e := (false, default, ())) c 0 with ⟨j, b, _, hj, hg, _, hb4⟩ | ⟨hn4, hb4⟩
            · have e : b = (true, (0, 26), default) := by
                simp only [far4] at hg
                revert hg
                cases (bif decide (0 < j) then (bif m84 n d (D.ii (j - 1) 0) (D.ii j 0) M then false else true) else false) <;> intro hg
                · cases hg
                · exact (Option.some.inj hg).symm
              rw [hb4, e] at hl4
              refine ⟨by simp only [n45, x16, y16, hl, hl2, hl4, dd0, decide_eq_false hc0, wc, tc, wn, z1, z2, h0, h1, decide_true, Option.getD_some, Option.isSome_some, cond_true, cond_false, Bool.true_and, Bool.and_true, Bool.cond_self], fun h => ?_⟩
              simp only [m45, y16, hl, hl2, hl4, dd0, decide_eq_false hc0, wc, tc, wn, h0, h1, decide_true, Option.getD_some, cond_true, cond_false] at h
              exact absurd h (by decide)
            · rw [hb4] at hl4
              refine ⟨by simp only [n45, x16, y16, hl, hl2, hl4, dd0, decide_eq_false hc0, wc, tc, wn, z1, z2, h0, h1, decide_true, Option.getD_some, Option.isSome_some, cond_true, cond_false, Bool.true_and, Bool.and_true, Bool.cond_self], fun h => ⟨by simp only [m45, y16, hl, hl2, hl4, dd0, decide_eq_false hc0, wc, tc, wn, h0, h1, decide_true, Option.getD_some, cond_true, cond_false], I, fun q hq => ?_⟩⟩
              have := hn4 (q + 1) (Nat.zero_le _) (by omega)
              simp only [far4, Nat.add_sub_cancel, decide_eq_true (Nat.succ_pos q), cond_true] at this
              have k1 := I.k (show q < c by omega); have k2 := I.k hq
              have al := (allow_ok P hM (i := K D q) (j := K D (q + 1)) (I.kup hq) k2.1).2
              rw [k1.2, k2.2] at al
              cases hh : m84 n d (D.ii q 0) (D.ii (q + 1) 0) M with
              | false => rw [hh] at this; cases this
              | true => exact al.1 hh
          · refine ⟨by simp only [n45, x16, y16, hl, hl2, dd0, decide_eq_false hc0, wc, tc, wn, z1, z2, h0, decide_eq_false h1, decide_true, Option.getD_some, Option.isSome_some, cond_true, cond_false, Bool.true_and, Bool.and_true, Bool.cond_self], fun h => ?_⟩
            simp only [m45, y16, hl, hl2, dd0, decide_eq_false hc0, wc, tc, wn, h0, decide_eq_false h1, decide_true, Option.getD_some, cond_true, cond_false] at h
            exact absurd h (by decide)
        · refine ⟨by simp only [n45, x16, y16, hl, hl2, dd0, decide_eq_false hc0, wc, tc, wn, z1, z2, decide_eq_false h0, decide_true, Option.getD_some, Option.isSome_some, cond_true, cond_false, Bool.true_and, Bool.and_true, Bool.cond_self], fun h => ?_⟩
          simp only [m45, y16, hl, hl2, dd0, decide_eq_false hc0, wc, tc, wn, decide_eq_false h0, decide_true, Option.getD_some, cond_true, cond_false] at h
          exact absurd h (by decide)
end
theorem Ok.mono {n : Nat} {d : Dat} (T : Trk n d) {M N : Int} (h : M ≤ N) {i j : Nat} (hij : i < j) (hj : j < n) (k : Ok d M i j) : Ok d N i j := fun q h1 h2 => by
  have a := k q h1 h2
  unfold okAt at a ⊢
  have := T.lt hij hj
  exact Int.le_trans a (Int.mul_le_mul_of_nonneg_right h (by omega))
theorem fewer_ok (n : Nat) (d : Dat) (M N : Int) (c : Nat) (D : Dat) : n9 n d M N c D = true ∧ m9 n d M N c D = true := by
  by_cases h1 : 12 < (n : Int)
  · exact ⟨by simp only [n9, n10_t, m10_t, decide_eq_true h1, cond_true, cond_false, Bool.true_and, Bool.and_true, Bool.cond_self], by simp only [m9, m10_t, decide_eq_true h1, cond_true, cond_false]⟩
  by_cases h2 : 14 < (c : Int)
  · exact ⟨by simp only [n9, n10_t, m10_t, decide_eq_false h1, decide_eq_true h2, cond_true, cond_false, Bool.true_and, Bool.and_true, Bool.cond_self], by simp only [m9, m10_t, decide_eq_false h1, decide_eq_true h2, cond_true, cond_false]⟩
  obtain ⟨c1, c2, c3, c4⟩ := check_ok (n := n) (d := d) (by omega)
  by_cases h0 : m15 n d = 0
  · have P := c4.1 h0
    rw [h0] at c3
    have k1 : n13 n d = true := by simp only [n13, Nat.zero_add, decide_eq_true (show n ≤ 1073741824 by omega), Nat.le_refl, decide_true]; rfl
    have k2 : n46 c D = true := by simp only [n46, Nat.zero_add, decide_eq_true (show c ≤ 1073741824 by omega), Nat.le_refl, decide_true]; rfl
    have k3 : m46 c D = (c, D) := by simp only [m46, Nat.zero_add, app_nil0]
    cases h3 : m16 M 0 N with
    | false => exact ⟨by simp only [n9, n10_t, m10_t, decide_eq_false h1, decide_eq_false h2, c2, c3, h3, decide_true, cond_true, cond_false, Bool.true_and, Bool.and_true, Bool.cond_self], by simp only [m9, m10_t, decide_eq_false h1, decide_eq_false h2, c3, h3, decide_true, cond_true, cond_false]⟩
    | true =>
    have hMN := m52_iff.1 (show m52 M 0 N = true from h3)
    by_cases h4 : 30000 < N
    · exact ⟨by simp only [n9, n10_t, m10_t, decide_eq_false h1, decide_eq_false h2, c2, c3, h3, decide_eq_true h4, decide_true, cond_true, cond_false, Bool.true_and, Bool.and_true, Bool.cond_self], by simp only [m9, m10_t, decide_eq_false h1, decide_eq_false h2, c3, h3, decide_eq_true h4, decide_true, cond_true, cond_false]⟩
    have hM : 0 ≤ M ∧ M ≤ 30000 := by omega
    have hN : 0 ≤ N ∧ N ≤ 30000 := by omega
    obtain ⟨a1, ca, Da, Aa, a2, a3, a4, a5⟩ := thin_ok P hM
    obtain ⟨b1, cb, Db, Ab, b2, b3, b4, b5⟩ := thin_ok P hN
    obtain ⟨g1, g2⟩ := kept_check P hM (c := c) (D := D) (by omega)
    have less : cb ≤ ca := b5 ca Da a3 fun q hq => Ok.mono P.trk hMN.2 (a3.kup hq) (a3.k hq).1 (a4 q hq)
    have two : 2 ≤ cb := by
      have t := P.two; have p := b3.pos; have f := b3.first; have l := b3.last
      apply Decidable.byContradiction
      intro hn
      have : cb - 1 = 0 := by omega
      rw [this] at l; omega
    have z1 : decide ((ca : Int) < (cb : Int)) = false := decide_eq_false (by omega)
    have z2 : decide ((cb : Int) < 2) = false := decide_eq_false (by omega)
    have dd0 : decide ((0 : Int) = 0) = true := rfl
    constructor
    · simp only [n9, n10_t, m10_t, decide_eq_false h1, decide_eq_false h2, c2, c3, h3, decide_eq_false h4, k1, k2, k3, copy_eq, a1, a2, b1, b2, g1, z1, z2, dd0, decide_true, cond_true, cond_false, Bool.true_and, Bool.and_true, Bool.cond_self]
    · by_cases hz : (m45 n d M c D).2 = 0
      · obtain ⟨g3, g4, g5⟩ := g2 hz
        have := a5 c D g4 g5
        have z3 : decide ((ca : Int) ≤ (c : Int)) = true := decide_eq_true (by omega)
        simp only [m9, m10_t, decide_eq_false h1, decide_eq_false h2, c3, h3, decide_eq_false h4, k3, copy_eq, a2, b2, z1, z2, z3, hz, g3, dd0, decide_true, cond_true, cond_false]
      · simp only [m9, m10_t, decide_eq_false h1, decide_eq_false h2, c3, h3, decide_eq_false h4, k3, copy_eq, a2, b2, z1, z2, decide_eq_false hz, dd0, decide_true, cond_true, cond_false]
  · exact ⟨by simp only [n9, n10_t, m10_t, decide_eq_false h1, decide_eq_false h2, c2, c3, decide_eq_false h0, cond_true, cond_false, Bool.true_and, Bool.and_true, Bool.cond_self], by simp only [m9, m10_t, decide_eq_false h1, decide_eq_false h2, c3, decide_eq_false h0, cond_true, cond_false]⟩
end Go.Proofs.YtchhhoamnagbfaaDoor

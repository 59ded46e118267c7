/-
  The law of distances: plain law. Conditions: none.
-/
import Derived.Test.YtchhhoamnagbfaaDoorCPPlans
namespace Go.Proofs.YtchhhoamnagbfaaDoor
open Go Go.Sy
set_option linter.unusedVariables false
set_option linter.unusedSimpArgs false
set_option maxRecDepth 100000
theorem frac_trans {a b c d e f : Int} (hb : 0 < b) (hd : 0 < d) (hf : 0 < f) (h : a * d ≤ c * b) (k : c * f ≤ e * d) : a * f ≤ e * b := by
  have h1 := Int.mul_le_mul_of_nonneg_right h (show 0 ≤ f by omega)
  have h2 := Int.mul_le_mul_of_nonneg_right k (show 0 ≤ b by omega)
  have e1 : a * d * f = a * f * d := by ac_rfl
  have e2 : c * b * f = c * f * b := by ac_rfl
  have e3 : e * d * b = e * b * d := by ac_rfl
  rw [e1, e2] at h1; rw [e3] at h2
  exact Int.le_of_mul_le_mul_right (Int.le_trans h1 h2) hd
theorem frac_lt {K p q X W : Int} (hq : 0 < q) (hW : 0 < W) (h : K * q < p) (k : p * W ≤ X * q) : K * W < X := by
  apply Decidable.byContradiction
  intro hn
  have h1 := Int.mul_le_mul_of_nonneg_right (show X ≤ K * W by omega) (show 0 ≤ q by omega)
  have e1 : K * W * q = K * q * W := by ac_rfl
  have h2 := Int.le_of_mul_le_mul_right (Int.le_trans k (e1 ▸ h1)) hW
  omega
theorem same_le {a p q p' q' : Int} (hq : 0 < q) (hq' : 0 < q') (h : p * q' = p' * q) : (a * q ≤ p ↔ a * q' ≤ p') := by
  constructor
  · intro k
    have h1 := Int.mul_le_mul_of_nonneg_right k (show 0 ≤ q' by omega)
    rw [h, show a * q * q' = a * q' * q by ac_rfl] at h1
    exact Int.le_of_mul_le_mul_right h1 hq
  · intro k
    have h1 := Int.mul_le_mul_of_nonneg_right k (show 0 ≤ q by omega)
    rw [← h, show a * q' * q = a * q * q' by ac_rfl] at h1
    exact Int.le_of_mul_le_mul_right h1 hq'
theorem same_lt {a p q p' q' : Int} (hq : 0 < q) (hq' : 0 < q') (h : p * q' = p' * q) : (a * q < p ↔ a * q' < p') := by
  constructor
  · intro k; exact frac_lt hq hq' k (by rw [h]; exact Int.le_refl _)
  · intro k; exact frac_lt hq' hq k (by rw [h]; exact Int.le_refl _)
theorem floor_lt {K p q : Int} (hq : 0 < q) : K < p / q ↔ (K + 1) * q ≤ p := by
  rw [← Int.le_ediv_iff_mul_le hq]; omega
theorem ceil_lt {K p q : Int} (hq : 0 < q) : K < -((-p) / q) ↔ K * q < p := by
  have : K < -((-p) / q) ↔ (-p) / q < -K := by omega
  rw [this, Int.ediv_lt_iff_lt_mul hq, Int.neg_mul]; omega
theorem floorX {a b : Int} (hb : 0 < b) (hb2 : b ≤ 4000000000000000000) (h0 : -4000000000000000000 ≤ a) (h1 : a ≤ 4000000000000000000) : m91 a b = a / b := by
  by_cases ha : 0 ≤ a
  · have q0 := Int.ediv_nonneg ha (show 0 ≤ b by omega)
    have q1 := Int.ediv_le_self b ha
    have hm : ¬ a.tmod b < 0 := by have := Int.tmod_nonneg b ha; omega
    simp only [m91, decide_eq_false hm, cond_false, Int.tdiv_eq_ediv_of_nonneg ha]
    exact wr (by omega) (by omega)
  · obtain ⟨c, rfl⟩ : ∃ c, a = -c := ⟨-a, by omega⟩
    have hc : 0 ≤ c := by omega
    have q0 := Int.ediv_nonneg hc (show 0 ≤ b by omega)
    have q1 := Int.ediv_le_self b hc
    have e := Int.mul_ediv_add_emod c b
    have r0 := Int.emod_nonneg c (show b ≠ 0 by omega)
    have r1 := Int.emod_lt_of_pos c hb
    simp only [m91, Int.neg_tdiv, Int.neg_tmod, Int.tdiv_eq_ediv_of_nonneg hc, Int.tmod_eq_emod_of_nonneg hc]
    by_cases hr : c % b = 0
    · rw [hr] at e ⊢
      simp only [Int.neg_zero, Int.lt_irrefl, decide_false, cond_false]
      rw [wr (by omega) (by omega)]
      refine (((Int.ediv_emod_unique (r := 0) hb).2 ⟨?_, by omega, hb⟩).1).symm
      rw [Int.mul_neg]; omega
    · simp only [decide_eq_true (show -(c % b) < 0 by omega), cond_true]
      rw [wr (n := -(c / b)) (by omega) (by omega), wr (by omega) (by omega)]
      refine (((Int.ediv_emod_unique (r := b - c % b) hb).2 ⟨?_, by omega, by omega⟩).1).symm
      rw [Int.mul_sub, Int.mul_neg]; omega
theorem ref_round {p q : Int} (hp : 0 ≤ p ∧ p ≤ 4000000000000000000) (hq : 1 ≤ q ∧ q ≤ 4000000000000000000) : n56 p q = true ∧ m56 p q = (p / q, -((-p) / q)) ∧ 0 ≤ p / q ∧ 0 ≤ -((-p) / q) := by
  have q0 := Int.ediv_nonneg hp.1 (show 0 ≤ q by omega)
  have q1 := Int.ediv_le_self q hp.1
  have c : 0 ≤ -((-p) / q) ∧ -((-p) / q) ≤ p := by
    have h := ceil_lt (K := -1) (p := p) (show 0 < q by omega)
    have h2 := ceil_lt (K := p) (p := p) (show 0 < q by omega)
    have : p * 1 ≤ p * q := Int.mul_le_mul_of_nonneg_left hq.1 hp.1
    omega
  refine ⟨(round_ne (by omega)).2, ?_, q0, c.1⟩
  simp only [m56, m92]
  rw [wr (n := 0 - p) (by omega) (by omega), show (0 : Int) - p = -p from Int.zero_sub p, floorX (by omega) (by omega) (by omega) (by omega), floorX (by omega) (by omega) (by omega) (by omega), Int.zero_sub, wr (by omega) (by omega)]
theorem our_round {X W : Int} (hX : 0 ≤ X ∧ X ≤ 60000060000) (hW : 1 ≤ W ∧ W ≤ 1000001) : n54 X W = true ∧ m54 X W = (X / W, -((-X) / W)) := by
  refine ⟨(round_ne (by omega)).1, ?_⟩
  rw [roundW ⟨hX.1, by omega⟩ ⟨hW.1, by omega⟩]
  exact (ref_round ⟨hX.1, by omega⟩ ⟨hW.1, by omega⟩).2.1
theorem At.unique {n : Nat} {d : Dat} (T : Trk n d) {x a b a' b' : Int} (h : At n d x a b) (h' : At n d x a' b') : a = a' ∧ b = b' := by
  rcases h with ⟨k, hk, rfl, rfl, rfl⟩ | ⟨q, hq, k1, k2, rfl, rfl⟩
  · obtain ⟨rfl, rfl⟩ := h'.at_point T hk
    exact ⟨rfl, rfl⟩
  · obtain ⟨rfl, rfl⟩ := h'.between T hq k1 k2
    exact ⟨rfl, rfl⟩
section
variable {n m : Nat} {d e : Dat}
def Pt (n : Nat) (d : Dat) (m : Nat) (e : Dat) (x : Int) : Prop := (∃ k, k < n ∧ x = d.ii k 0) ∨ ∃ k, k < m ∧ x = e.ii k 0
theorem dist_run2 {v : Nat} {D : Dat} (hv : v ≤ 1000) (hA : ∀ i, i < v → n95 n d m e (D.ii i 0) = true ∧ Sm (m95 n d m e (D.ii i 0)).1 (m95 n d m e (D.ii i 0)).2) (p0 p2 : Nat) (p1 p3 : Dat) (t a b : Int) : ∀ (k i f : Nat) (bn bd : Int), i + k = v → k < f → Sm bn bd →
    ∃ rn rd, l68_2 n d m e p0 p1 p2 p3 t v D (v : Int) a b f (i : Int) bn bd = some (rn, rd) ∧ Sm rn rd ∧ ((rn = bn ∧ rd = bd) ∨ ∃ j, j < v ∧ m95 n d m e (D.ii j 0) = (rn, rd)) ∧ bn * rd ≤ rn * bd ∧ ∀ j, i ≤ j → j < v → (m95 n d m e (D.ii j 0)).1 * rd ≤ rn * (m95 n d m e (D.ii j 0)).2
  | 0, i, f, bn, bd, hi, hf, hS => by
    obtain ⟨f, rfl⟩ : ∃ f', f = f' + 1 := ⟨f - 1, by omega⟩
    obtain rfl : i = v := by omega
    exact ⟨bn, bd, by simp only [l68_2, cdn, cond_false], hS, .inl ⟨rfl, rfl⟩, Int.le_refl _, fun j h1 h2 => by omega⟩
  | k + 1, i, f, bn, bd, hi, hf, hS => by
    obtain ⟨f, rfl⟩ : ∃ f', f = f' + 1 := ⟨f - 1, by omega⟩
    have hlt : i < v := by omega
    obtain ⟨a1, a2⟩ := hA i hlt
    have hl := less_sm hS a2
    by_cases hh : bn * (m95 n d m e (D.ii i 0)).2 < (m95 n d m e (D.ii i 0)).1 * bd
    · rw [decide_eq_true hh] at hl
      obtain ⟨rn, rd, g1, g2, g3, g4, g5⟩ := dist_run2 hv hA p0 p2 p1 p3 t a b k (i + 1) f _ _ (by omega) (by omega) a2
      refine ⟨rn, rd, ?_, g2, ?_, ?_, fun j h1 h2 => ?_⟩
      · simp only [l68_2, cdl hlt, cdd hlt, Int.toNat_natCast, a1, hl, wrS hlt (by omega), cond_true]
        exact g1
      · rcases g3 with ⟨rfl, rfl⟩ | g3
        · exact .inr ⟨i, hlt, rfl⟩
        · exact .inr g3
      · have := g2.2; have := a2.2; have := hS.2
        exact frac_trans (by omega) (by omega) (by omega) (Int.le_of_lt hh) g4
      · by_cases hj : j = i
        · subst hj; exact g4
        · exact g5 j (by omega) h2
    · rw [decide_eq_false hh] at hl
      obtain ⟨rn, rd, g1, g2, g3, g4, g5⟩ := dist_run2 hv hA p0 p2 p1 p3 t a b k (i + 1) f _ _ (by omega) (by omega) hS
      refine ⟨rn, rd, ?_, g2, g3, g4, fun j h1 h2 => ?_⟩
      · simp only [l68_2, cdl hlt, cdd hlt, Int.toNat_natCast, a1, hl, wrS hlt (by omega), cond_true, cond_false]
        exact g1
      · by_cases hj : j = i
        · subst hj
          have := g2.2; have := a2.2; have := hS.2
          exact frac_trans (by omega) (show 0 < bd by omega) (by omega) (by omega) g4
        · exact g5 j (by omega) h2
theorem o68_ok2 {v : Nat} {D : Dat} (hv : v ≤ 1000) (hA : ∀ i, i < v → n95 n d m e (D.ii i 0) = true ∧ Sm (m95 n d m e (D.ii i 0)).1 (m95 n d m e (D.ii i 0)).2) (p0 p2 : Nat) (p1 p3 : Dat) (t : Int) (bn bd : Int) (hS : Sm bn bd) :
    ∃ rn rd, o68_2 n d m e p0 p1 p2 p3 t v D (v : Int) 0 0 0 bn bd = some (rn, rd) ∧ Sm rn rd ∧ ((rn = bn ∧ rd = bd) ∨ ∃ j, j < v ∧ m95 n d m e (D.ii j 0) = (rn, rd)) ∧ bn * rd ≤ rn * bd ∧ ∀ j, j < v → (m95 n d m e (D.ii j 0)).1 * rd ≤ rn * (m95 n d m e (D.ii j 0)).2 := by
  have h := fun F (hF : v < F) => dist_run2 (n := n) (m := m) (d := d) (e := e) hv hA p0 p2 p1 p3 t 0 0 v 0 F bn bd (by omega) hF hS
  unfold o68_2
  generalize t.toNat = y1
  generalize bn.toNat = y2
  generalize bd.toNat = y3
  obtain ⟨rn, rd, h1, h2, h3, h4, h5⟩ := h (n + m + p0 + p2 + y1 + v + (v : Int).toNat + (0 : Int).toNat + (0 : Int).toNat + (0 : Int).toNat + y2 + y3 + 8) (by omega)
  exact ⟨rn, rd, h1, h2, h3, h4, fun j hj => h5 j (Nat.zero_le _) hj⟩
def FL (n : Nat) (d : Dat) (m : Nat) (e : Dat) (K : Int) : Prop := ∃ x, Pt n d m e x ∧ (K + 1) * (m95 n d m e x).2 ≤ (m95 n d m e x).1
def CL (n : Nat) (d : Dat) (m : Nat) (e : Dat) (K : Int) : Prop := ∃ x, Pt n d m e x ∧ K * (m95 n d m e x).2 < (m95 n d m e x).1
theorem dist_round (T : Trk n d) (U : Trk m e) (h0 : d.ii 0 0 = e.ii 0 0) (h1 : d.ii (n - 1) 0 = e.ii (m - 1) 0) : n54 (m68 n d m e).1 (m68 n d m e).2 = true ∧ ∃ lo hi : Int, m54 (m68 n d m e).1 (m68 n d m e).2 = (lo, hi) ∧ 0 ≤ lo ∧ 0 ≤ hi ∧ (∀ K, 0 ≤ K → (K < lo ↔ FL n d m e K)) ∧ (∀ K, 0 ≤ K → (K < hi ↔ CL n d m e K)) ∧ ∀ M, (M * (m68 n d m e).2 < (m68 n d m e).1 ↔ M < hi) := by
  have fn := T.few; have fm := U.few
  have hsm := fun x hx => apart_sm T U h0 h1 (x := x) hx
  obtain ⟨an, ad, a1, a2, a3, a4, a5⟩ := o68_ok2 (n := n) (m := m) (d := d) (e := e) (v := n) (D := d) (by omega) (fun i hi => by have := hsm _ (.inl ⟨i, hi, rfl⟩); exact ⟨this.1, this.2.1⟩) n m d e 0 0 1 ⟨by omega, by omega⟩
  obtain ⟨bn, bd, b1, b2, b3, b4, b5⟩ := o68_ok2 (n := n) (m := m) (d := d) (e := e) (v := m) (D := e) (by omega) (fun i hi => by have := hsm _ (.inr ⟨i, hi, rfl⟩); exact ⟨this.1, this.2.1⟩) n m d e 1 an ad a2
  have e23 : m68 n d m e = (bn, bd) := by simp only [m68, a1, Option.getD_some, b1]
  rw [e23]
  obtain ⟨r1, r2⟩ := our_round (X := bn) (W := bd) b2.1 b2.2
  have all : ∀ x, Pt n d m e x → (m95 n d m e x).1 * bd ≤ bn * (m95 n d m e x).2 := by
    rintro x (⟨k, hk, rfl⟩ | ⟨k, hk, rfl⟩)
    · have s := (hsm _ (.inl ⟨k, hk, rfl⟩)).2.1.2
      have := a2.2; have := b2.2
      exact frac_trans (by omega) (show 0 < ad by omega) (by omega) (a5 k hk) b4
    · exact b5 k hk
  have at' : (bn = 0 ∧ bd = 1) ∨ ∃ x, Pt n d m e x ∧ m95 n d m e x = (bn, bd) := by
    rcases b3 with ⟨rfl, rfl⟩ | ⟨j, hj, h⟩
    · rcases a3 with h | ⟨j, hj, h⟩
      · exact .inl h
      · exact .inr ⟨_, .inl ⟨j, hj, rfl⟩, h⟩
    · exact .inr ⟨_, .inr ⟨j, hj, rfl⟩, h⟩
  have q := (ref_round (p := bn) (q := bd) ⟨b2.1.1, by have := b2.1; omega⟩ ⟨b2.2.1, by have := b2.2; omega⟩).2.2
  have hbd : 0 < bd := by have := b2.2; omega
  refine ⟨r1, _, _, r2, q.1, q.2, fun K hK => (floor_lt hbd).trans ⟨fun h => ?_, fun ⟨x, hx, h⟩ => ?_⟩, fun K hK => (ceil_lt hbd).trans ⟨fun h => ?_, fun ⟨x, hx, h⟩ => ?_⟩, fun M => (ceil_lt hbd).symm⟩
  · rcases at' with ⟨rfl, rfl⟩ | ⟨x, hx, hh⟩
    · omega
    · exact ⟨x, hx, by rw [hh]; exact h⟩
  · have s := (hsm x hx).2.1.2
    have := frac_trans (a := K + 1) (b := 1) (by omega) (show 0 < (m95 n d m e x).2 by omega) hbd (by rw [Int.mul_one]; exact h) (all x hx)
    rwa [Int.mul_one] at this
  · rcases at' with ⟨rfl, rfl⟩ | ⟨x, hx, hh⟩
    · omega
    · exact ⟨x, hx, by rw [hh]; exact h⟩
  · have s := (hsm x hx).2.1.2
    exact frac_lt (show 0 < (m95 n d m e x).2 by omega) hbd h (all x hx)
theorem iabs_mul {x c : Int} (hc : 0 ≤ c) : iabs x * c = iabs (x * c) := by
  unfold iabs
  by_cases h : x < 0
  · rw [if_pos h]
    by_cases h0 : c = 0
    · subst h0; simp
    · have : x * c < 0 := Int.mul_neg_of_neg_of_pos h (by omega)
      rw [if_pos this, Int.neg_mul]
  · rw [if_neg h]
    have : 0 ≤ x * c := Int.mul_nonneg (by omega) hc
    rw [if_neg (by omega)]
theorem ref_apart (T : Trk n d) (U : Trk m e) (h0 : d.ii 0 0 = e.ii 0 0) (h1 : d.ii (n - 1) 0 = e.ii (m - 1) 0) {x : Int} (hx : Pt n d m e x) :
    n70 n d m e x = true ∧ (0 ≤ (m70 n d m e x).1 ∧ (m70 n d m e x).1 ≤ 4000000000000000000) ∧ (1 ≤ (m70 n d m e x).2 ∧ (m70 n d m e x).2 ≤ 4000000000000000000) ∧ (m95 n d m e x).1 * (m70 n d m e x).2 = (m70 n d m e x).1 * (m95 n d m e x).2 := by
  have tn := T.two; have tm := U.two
  have hr : d.ii 0 0 ≤ x ∧ x ≤ d.ii (n - 1) 0 := by
    rcases hx with ⟨k, hk, rfl⟩ | ⟨k, hk, rfl⟩
    · exact ⟨T.le (Nat.zero_le _) hk, T.le (by omega) (by omega)⟩
    · rw [h0, h1]; exact ⟨U.le (Nat.zero_le _) hk, U.le (by omega) (by omega)⟩
  obtain ⟨_, _, n1, d1, n2, d2, A, B, ge⟩ := apart_sm T U h0 h1 hx
  obtain ⟨s1, s2⟩ := ref_at T hr.1 hr.2
  obtain ⟨t1, t2⟩ := ref_at U (x := x) (by rw [← h0]; exact hr.1) (by rw [← h1]; exact hr.2)
  have c1 := (at_ref T A s2).1
  have c2 := (at_ref U B t2).1
  have b1 := s2.bnd T
  have b2 := t2.bnd U
  have a1 := (A.bnd T).1; have a2 := (B.bnd U).1
  rw [ge]
  refine ⟨by simp only [n70, s1, t1]; rfl, ?_⟩
  simp only [m70, m96]
  generalize (m55 n d x).1 = u1 at *
  generalize (m55 n d x).2 = v1 at *
  generalize (m55 m e x).1 = u2 at *
  generalize (m55 m e x).2 = v2 at *
  have p1 := mulb b1.2.1 b1.2.2 (show 0 ≤ v2 by omega) b2.1.2
  have p2 := mulb b2.2.1 b2.2.2 (show 0 ≤ v1 by omega) b1.1.2
  have p3 := mulb (show 0 ≤ v1 by omega) b1.1.2 (show 0 ≤ v2 by omega) b2.1.2
  have p4 : 1 * 1 ≤ v1 * v2 := Int.mul_le_mul b1.1.1 b2.1.1 (by decide) (by omega)
  rw [wr (n := u1 * v2) (by omega) (by omega), wr (n := u2 * v1) (by omega) (by omega), wr (n := u1 * v2 - u2 * v1) (by omega) (by omega), wr (n := 0 - (u1 * v2 - u2 * v1)) (by omega) (by omega), imax_abs, wr (n := v1 * v2) (by omega) (by omega)]
  have q := iabs_bnd (x := u1 * v2 - u2 * v1) (B := 4000000000000000000) (by omega) (by omega)
  refine ⟨q, by omega, ?_⟩
  have p5 : 0 ≤ d1 * d2 := Int.mul_nonneg (by omega) (by omega)
  rw [iabs_mul (by omega), iabs_mul p5]
  congr 1
  rw [Int.sub_mul, Int.sub_mul]
  congr 1
  · rw [show n1 * d2 * (v1 * v2) = n1 * v1 * (d2 * v2) by ac_rfl, c1]; ac_rfl
  · rw [show n2 * d1 * (v1 * v2) = n2 * v2 * (d1 * v1) by ac_rfl, c2]; ac_rfl
theorem lt_imax {K a b : Int} : K < imax a b ↔ K < a ∨ K < b := by unfold imax; split <;> omega
theorem ref_runD {v : Nat} {D : Dat} (hv : v ≤ 1000) (hA : ∀ i, i < v → n70 n d m e (D.ii i 0) = true ∧ n56 (m70 n d m e (D.ii i 0)).1 (m70 n d m e (D.ii i 0)).2 = true) (p0 p2 : Nat) (p1 p3 : Dat) (t a b : Int) : ∀ (k i f : Nat) (lo hi : Int), i + k = v → k < f →
    ∃ lo' hi', l34_2 n d m e v D p0 p1 p2 p3 t a b f (i : Int) lo hi = some (lo', hi') ∧ (∀ K, K < lo' ↔ K < lo ∨ ∃ j, i ≤ j ∧ j < v ∧ K < (m56 (m70 n d m e (D.ii j 0)).1 (m70 n d m e (D.ii j 0)).2).1) ∧ (∀ K, K < hi' ↔ K < hi ∨ ∃ j, i ≤ j ∧ j < v ∧ K < (m56 (m70 n d m e (D.ii j 0)).1 (m70 n d m e (D.ii j 0)).2).2)
  | 0, i, f, lo, hi, hi', hf => by
    obtain ⟨f, rfl⟩ : ∃ f', f = f' + 1 := ⟨f - 1, by omega⟩
    obtain rfl : i = v := by omega
    exact ⟨lo, hi, by simp only [l34_2, cdn, cond_false], fun K => ⟨.inl, fun h => h.elim id fun ⟨j, h1, h2, _⟩ => by omega⟩, fun K => ⟨.inl, fun h => h.elim id fun ⟨j, h1, h2, _⟩ => by omega⟩⟩
  | k + 1, i, f, lo, hi, hi', hf => by
    obtain ⟨f, rfl⟩ : ∃ f', f = f' + 1 := ⟨f - 1, by omega⟩
    have hlt : i < v := by omega
    obtain ⟨a1, a2⟩ := hA i hlt
    obtain ⟨lo', hi'', g1, g2, g3⟩ := ref_runD hv hA p0 p2 p1 p3 t a b k (i + 1) f (imax lo (m56 (m70 n d m e (D.ii i 0)).1 (m70 n d m e (D.ii i 0)).2).1) (imax hi (m56 (m70 n d m e (D.ii i 0)).1 (m70 n d m e (D.ii i 0)).2).2) (by omega) (by omega)
    have split : ∀ (Q : Nat → Prop) (X Y : Prop), (Y ↔ Q i) → ((X ∨ Y) ∨ (∃ j, i + 1 ≤ j ∧ j < v ∧ Q j) ↔ X ∨ ∃ j, i ≤ j ∧ j < v ∧ Q j) := fun Q X Y hY => by
      constructor
      · rintro ((h | h) | ⟨j, h1, h2, h3⟩)
        · exact .inl h
        · exact .inr ⟨i, Nat.le_refl _, hlt, hY.1 h⟩
        · exact .inr ⟨j, by omega, h2, h3⟩
      · rintro (h | ⟨j, h1, h2, h3⟩)
        · exact .inl (.inl h)
        · by_cases hj : j = i
          · subst hj; exact .inl (.inr (hY.2 h3))
          · exact .inr ⟨j, by omega, h2, h3⟩
    refine ⟨lo', hi'', ?_, fun K => ?_, fun K => ?_⟩
    · simp only [l34_2, cdl hlt, cdd hlt, Int.toNat_natCast, a1, a2, wrS hlt (by omega), cond_true]
      exact g1
    · rw [g2 K, lt_imax]; exact split (fun j => K < (m56 (m70 n d m e (D.ii j 0)).1 (m70 n d m e (D.ii j 0)).2).1) _ _ Iff.rfl
    · rw [g3 K, lt_imax]; exact split (fun j => K < (m56 (m70 n d m e (D.ii j 0)).1 (m70 n d m e (D.ii j 0)).2).2) _ _ Iff.rfl
theorem o34_ok {v : Nat} {D : Dat} (hv : v ≤ 1000) (hA : ∀ i, i < v → n70 n d m e (D.ii i 0) = true ∧ n56 (m70 n d m e (D.ii i 0)).1 (m70 n d m e (D.ii i 0)).2 = true) (p0 p2 : Nat) (p1 p3 : Dat) (t : Int) (lo hi : Int) :
    ∃ lo' hi', o34_2 n d m e v D p0 p1 p2 p3 t 0 0 0 lo hi = some (lo', hi') ∧ (∀ K, K < lo' ↔ K < lo ∨ ∃ j, j < v ∧ K < (m56 (m70 n d m e (D.ii j 0)).1 (m70 n d m e (D.ii j 0)).2).1) ∧ (∀ K, K < hi' ↔ K < hi ∨ ∃ j, j < v ∧ K < (m56 (m70 n d m e (D.ii j 0)).1 (m70 n d m e (D.ii j 0)).2).2) := by
  have h := fun F (hF : v < F) => ref_runD (n := n) (m := m) (d := d) (e := e) hv hA p0 p2 p1 p3 t 0 0 v 0 F lo hi (by omega) hF
  unfold o34_2
  generalize t.toNat = y1
  generalize lo.toNat = y2
  generalize hi.toNat = y3
  obtain ⟨lo', hi', h1, h2, h3⟩ := h (n + m + v + (0 : Int).toNat + p0 + p2 + y1 + (0 : Int).toNat + (0 : Int).toNat + y2 + y3 + 8) (by omega)
  have z : ∀ (Q : Nat → Prop) (X : Prop), (X ∨ (∃ j, 0 ≤ j ∧ j < v ∧ Q j)) ↔ (X ∨ ∃ j, j < v ∧ Q j) := fun Q X => ⟨fun h => h.imp id fun ⟨j, _, h⟩ => ⟨j, h⟩, fun h => h.imp id fun ⟨j, h⟩ => ⟨j, Nat.zero_le _, h⟩⟩
  exact ⟨lo', hi', h1, fun K => (h2 K).trans (z (fun j => K < (m56 (m70 n d m e (D.ii j 0)).1 (m70 n d m e (D.ii j 0)).2).1) _), fun K => (h3 K).trans (z (fun j => K < (m56 (m70 n d m e (D.ii j 0)).1 (m70 n d m e (D.ii j 0)).2).2) _)⟩
theorem ref_dist (T : Trk n d) (U : Trk m e) (h0 : d.ii 0 0 = e.ii 0 0) (h1 : d.ii (n - 1) 0 = e.ii (m - 1) 0) : n34 n d m e = true ∧ ∃ lo hi : Int, m34 n d m e = (lo, hi) ∧ 0 ≤ lo ∧ 0 ≤ hi ∧ (∀ K, 0 ≤ K → (K < lo ↔ FL n d m e K)) ∧ (∀ K, 0 ≤ K → (K < hi ↔ CL n d m e K)) := by
  have fn := T.few; have fm := U.few
  have hap := fun x hx => ref_apart T U h0 h1 (x := x) hx
  have hrr : ∀ x, Pt n d m e x → n70 n d m e x = true ∧ n56 (m70 n d m e x).1 (m70 n d m e x).2 = true := fun x hx => ⟨(hap x hx).1, (ref_round (hap x hx).2.1 (hap x hx).2.2.1).1⟩
  obtain ⟨l1, u1, a1, a2, a3⟩ := o34_ok (n := n) (m := m) (d := d) (e := e) (v := n) (D := d) (by omega) (fun i hi => hrr _ (.inl ⟨i, hi, rfl⟩)) n m d e 0 0 0
  obtain ⟨l2, u2, b1, b2, b3⟩ := o34_ok (n := n) (m := m) (d := d) (e := e) (v := m) (D := e) (by omega) (fun i hi => hrr _ (.inr ⟨i, hi, rfl⟩)) n m d e 1 l1 u1
  have hF : ∀ x K, Pt n d m e x → (K < (m56 (m70 n d m e x).1 (m70 n d m e x).2).1 ↔ (K + 1) * (m95 n d m e x).2 ≤ (m95 n d m e x).1) := fun x K hx => by
    obtain ⟨_, c1, c2, c3⟩ := hap x hx
    have s := (apart_sm T U h0 h1 hx).2.1.2
    rw [(ref_round c1 c2).2.1]
    exact (floor_lt (by omega)).trans (same_le (by omega) (by omega) c3).symm
  have hC : ∀ x K, Pt n d m e x → (K < (m56 (m70 n d m e x).1 (m70 n d m e x).2).2 ↔ K * (m95 n d m e x).2 < (m95 n d m e x).1) := fun x K hx => by
    obtain ⟨_, c1, c2, c3⟩ := hap x hx
    have s := (apart_sm T U h0 h1 hx).2.1.2
    rw [(ref_round c1 c2).2.1]
    exact (ceil_lt (by omega)).trans (same_lt (by omega) (by omega) c3).symm
  refine ⟨by simp only [n34, a1, Option.getD_some, b1]; rfl, l2, u2, by simp only [m34, a1, Option.getD_some, b1], ?_, ?_, fun K hK => ?_, fun K hK => ?_⟩
  · have := (b2 (-1)).2 (.inl ((a2 (-1)).2 (.inl (by decide)))); omega
  · have := (b3 (-1)).2 (.inl ((a3 (-1)).2 (.inl (by decide)))); omega
  · rw [b2 K, a2 K]
    constructor
    · rintro ((h | ⟨j, hj, h⟩) | ⟨j, hj, h⟩)
      · omega
      · exact ⟨_, .inl ⟨j, hj, rfl⟩, (hF _ K (.inl ⟨j, hj, rfl⟩)).1 h⟩
      · exact ⟨_, .inr ⟨j, hj, rfl⟩, (hF _ K (.inr ⟨j, hj, rfl⟩)).1 h⟩
    · rintro ⟨x, hx, h⟩
      have h := (hF x K hx).2 h
      rcases hx with ⟨j, hj, rfl⟩ | ⟨j, hj, rfl⟩
      · exact .inl (.inr ⟨j, hj, h⟩)
      · exact .inr ⟨j, hj, h⟩
  · rw [b3 K, a3 K]
    constructor
    · rintro ((h | ⟨j, hj, h⟩) | ⟨j, hj, h⟩)
      · omega
      · exact ⟨_, .inl ⟨j, hj, rfl⟩, (hC _ K (.inl ⟨j, hj, rfl⟩)).1 h⟩
      · exact ⟨_, .inr ⟨j, hj, rfl⟩, (hC _ K (.inr ⟨j, hj, rfl⟩)).1 h⟩
    · rintro ⟨x, hx, h⟩
      have h := (hC x K hx).2 h
      rcases hx with ⟨j, hj, rfl⟩ | ⟨j, hj, rfl⟩
      · exact .inl (.inr ⟨j, hj, h⟩)
      · exact .inr ⟨j, hj, h⟩
theorem by_lt {a b : Int} (ha : 0 ≤ a) (hb : 0 ≤ b) {P : Int → Prop} (h : ∀ K, 0 ≤ K → (K < a ↔ P K)) (k : ∀ K, 0 ≤ K → (K < b ↔ P K)) : a = b := by
  apply Decidable.byContradiction
  intro hn
  have h1 := (h a ha).trans (k a ha).symm
  have h2 := (h b hb).trans (k b hb).symm
  omega
theorem dist_alike (T : Trk n d) (U : Trk m e) (h0 : d.ii 0 0 = e.ii 0 0) (h1 : d.ii (n - 1) 0 = e.ii (m - 1) 0) :
    n54 (m68 n d m e).1 (m68 n d m e).2 = true ∧ n34 n d m e = true ∧ m54 (m68 n d m e).1 (m68 n d m e).2 = m34 n d m e ∧ (∀ M, (M * (m68 n d m e).2 < (m68 n d m e).1 ↔ M < (m34 n d m e).2)) ∧ m54 (m68 m e n d).1 (m68 m e n d).2 = m34 n d m e := by
  obtain ⟨a1, lo, hi, a2, a3, a4, a5, a6, a7⟩ := dist_round T U h0 h1
  obtain ⟨b1, lo', hi', b2, b3, b4, b5, b6⟩ := ref_dist T U h0 h1
  obtain ⟨c1, lo2, hi2, c2, c3, c4, c5, c6, _⟩ := dist_round U T h0.symm h1.symm
  have e1 := by_lt a3 b3 a5 b5
  have e2 := by_lt a4 b4 a6 b6
  have sw : ∀ x, Pt n d m e x → m95 m e n d x = m95 n d m e x := fun x hx => by
    obtain ⟨_, _, n1, d1, n2, d2, A, B, ge⟩ := apart_sm T U h0 h1 hx
    obtain ⟨_, _, n2', d2', n1', d1', B', A', ge'⟩ := apart_sm U T h0.symm h1.symm (x := x) (hx.elim .inr .inl)
    obtain ⟨rfl, rfl⟩ := A.unique T A'
    obtain ⟨rfl, rfl⟩ := B.unique U B'
    rw [ge, ge', ← iabs_neg, Int.neg_sub, Int.mul_comm d2 d1]
  have f1 : ∀ K, FL m e n d K ↔ FL n d m e K := fun K => ⟨fun ⟨x, hx, h⟩ => ⟨x, hx.elim .inr .inl, by rw [← sw x (hx.elim .inr .inl)]; exact h⟩, fun ⟨x, hx, h⟩ => ⟨x, hx.elim .inr .inl, by rw [sw x hx]; exact h⟩⟩
  have f2 : ∀ K, CL m e n d K ↔ CL n d m e K := fun K => ⟨fun ⟨x, hx, h⟩ => ⟨x, hx.elim .inr .inl, by rw [← sw x (hx.elim .inr .inl)]; exact h⟩, fun ⟨x, hx, h⟩ => ⟨x, hx.elim .inr .inl, by rw [sw x hx]; exact h⟩⟩
  have e3 := by_lt c3 b3 c5 fun K hK => (b5 K hK).trans (f1 K).symm
  have e4 := by_lt c4 b4 c6 fun K hK => (b6 K hK).trans (f2 K).symm
  subst e1 e2 e3 e4
  exact ⟨a1, b1, a2.trans b2.symm, fun M => by rw [b2]; exact a7 M, c2.trans b2.symm⟩
end
theorem m11_few {n : Nat} {d : Dat} (h : m11 n d = true) : n ≤ 202 := by
  simp only [m11] at h
  by_cases h1 : (n : Int) ≤ 12
  · omega
  · by_cases h2 : (200 : Int) < (n : Int)
    · have : decide ((n : Int) ≤ 202) = true := by simpa [h1, h2] using h
      have := of_decide_eq_true this; omega
    · simp [h1, h2] at h
theorem m13_ok {n : Nat} {d : Dat} (h : n ≤ 1073741824) : n13 n d = true := by simp only [n13, Nat.zero_add, decide_eq_true h, Nat.le_refl, decide_true]; rfl
theorem clash_ok {n m : Nat} {d e : Dat} (hn : 2 ≤ n ∧ n ≤ 200) (hm : 2 ≤ m ∧ m ≤ 200) : n33 n d m e = true ∧ n67 n d m e = true ∧ m67 n d m e = m33 n d m e ∧ (m33 n d m e = false ↔ d.ii 0 0 = e.ii 0 0 ∧ d.ii (n - 1) 0 = e.ii (m - 1) 0) := by
  have w1 : IntKind.i64.wrap ((n : Int) - 1) = (n : Int) - 1 := wr (by omega) (by omega)
  have w2 : IntKind.i64.wrap ((m : Int) - 1) = (m : Int) - 1 := wr (by omega) (by omega)
  have t1 : ((n : Int) - 1).toNat = n - 1 := by omega
  have t2 : ((m : Int) - 1).toNat = m - 1 := by omega
  have z1 : decide ((0 : Int) ≤ (0 : Int) ∧ (0 : Int) < (n : Int)) = true := decide_eq_true (by omega)
  have z2 : decide ((0 : Int) ≤ (0 : Int) ∧ (0 : Int) < (m : Int)) = true := decide_eq_true (by omega)
  have z3 : decide (0 ≤ (n : Int) - 1 ∧ (n : Int) - 1 < (n : Int)) = true := decide_eq_true (by omega)
  have z4 : decide (0 ≤ (m : Int) - 1 ∧ (m : Int) - 1 < (m : Int)) = true := decide_eq_true (by omega)
  refine ⟨by simp only [n33, w1, w2, z1, z2, z3, z4, Bool.cond_self, Bool.and_self, Bool.and_true, Bool.true_and], by simp only [n67, n62, w1, w2, z1, z2, z3, z4, Bool.cond_self, Bool.and_self, Bool.and_true, Bool.true_and], rfl, ?_⟩
  simp only [m33, w1, w2, t1, t2]
  by_cases a : d.ii 0 0 = e.ii 0 0
  · by_cases b : d.ii (n - 1) 0 = e.ii (m - 1) 0
    · simp [a, b]
    · simp [a, b]
  · simp [a]
theorem distances_ok (n : Nat) (d : Dat) (m : Nat) (e : Dat) (M : Int) : n5 n d m e M = true ∧ m5 n d m e M = true := by
  cases hs : m11 n d with
  | false => exact ⟨by simp only [n5, n10_t, m10_t, hs, cond_true, cond_false, Bool.and_true], by simp only [m5, m10_t, hs, cond_true, cond_false]⟩
  | true =>
  cases ht : m11 m e with
  | false => exact ⟨by simp only [n5, n10_t, m10_t, hs, ht, cond_true, cond_false, Bool.and_true], by simp only [m5, m10_t, hs, ht, cond_true, cond_false]⟩
  | true =>
  have fn := m11_few hs; have fm := m11_few ht
  have k1 := m13_ok (n := n) (d := d) (by omega); have k2 := m13_ok (n := m) (d := e) (by omega)
  obtain ⟨c1, c2, c3, c4⟩ := check_ok (n := n) (d := d) (by omega)
  obtain ⟨b1, b2, b3, b4⟩ := check_ok (n := m) (d := e) (by omega)
  have hdd : ∀ x : Int, decide (x = x) = true := fun x => decide_eq_true rfl
  by_cases h0 : m15 n d = 0
  · have P := c4.1 h0
    rw [h0] at c3
    by_cases g0 : m15 m e = 0
    · have Q := b4.1 g0
      rw [g0] at b3
      obtain ⟨x1, x2, x3, x4⟩ := clash_ok (d := d) (e := e) ⟨P.two, P.few⟩ ⟨Q.two, Q.few⟩
      obtain ⟨y1, y2, y3, y4⟩ := clash_ok (d := e) (e := d) ⟨Q.two, Q.few⟩ ⟨P.two, P.few⟩
      have e66 : m66 n d m e = 0 := by simp only [m66, h0, g0]; rfl
      have f66 : n66 n d m e = true := by simp only [n66, c1, h0, b1]; rfl
      have e66' : m66 m e n d = 0 := by simp only [m66, h0, g0]; rfl
      have f66' : n66 m e n d = true := by simp only [n66, b1, g0, c1]; rfl
      cases hc : m33 n d m e with
      | true =>
        have e31 : m31 n d m e = (0, 0, 13) := by simp only [m31, e66, x3, hc, decide_true, cond_true, cond_false]
        have f31 : n31 n d m e = true := by simp only [n31, f66, e66, x2, x3, hc, decide_true, cond_true, cond_false, Bool.and_self]
        cases hM : m16 M 0 30000 with
        | true =>
          have h69 : m69 M = true := hM
          have e32 : m32 n d m e M = (false, 13) := by simp only [m32, e66, h69, x3, hc, decide_true, cond_true, cond_false]
          have f32 : n32 n d m e M = true := by simp only [n32, f66, e66, h69, x2, x3, hc, decide_true, cond_true, cond_false, Bool.and_self]
          exact ⟨by simp only [n5, n10_t, m10_t, hs, ht, k1, k2, copy_eq, f31, f32, c2, c3, b2, b3, hM, x1, hc, e31, e32, hdd, decide_true, cond_true, cond_false, Bool.and_self, Bool.and_true, Bool.cond_self], by simp only [m5, m10_t, hs, ht, copy_eq, c3, b3, hM, hc, e31, e32, hdd, decide_true, cond_true, cond_false, Bool.cond_self]⟩
        | false =>
          have h69 : m69 M = false := hM
          have e32 : m32 n d m e M = (false, 2) := by simp only [m32, e66, h69, decide_true, cond_true, cond_false]
          have f32 : n32 n d m e M = true := by simp only [n32, f66, e66, h69, decide_true, cond_true, cond_false, Bool.and_self]
          exact ⟨by simp only [n5, n10_t, m10_t, hs, ht, k1, k2, copy_eq, f31, f32, c2, c3, b2, b3, hM, x1, hc, e31, e32, hdd, decide_true, cond_true, cond_false, Bool.and_self, Bool.and_true, Bool.cond_self], by simp only [m5, m10_t, hs, ht, copy_eq, c3, b3, hM, hc, e31, e32, hdd, decide_true, cond_true, cond_false, Bool.cond_self]⟩
      | false =>
        obtain ⟨z0, z1⟩ := x4.1 hc
        have hc' : m33 m e n d = false := y4.2 ⟨z0.symm, z1.symm⟩
        obtain ⟨g1, _, _⟩ := dist_ok P.trk Q.trk z0 z1
        obtain ⟨g1', _, _⟩ := dist_ok Q.trk P.trk z0.symm z1.symm
        obtain ⟨u1, u2, u3, u4, u5⟩ := dist_alike P.trk Q.trk z0 z1
        obtain ⟨v1, _, _, _, _⟩ := dist_alike Q.trk P.trk z0.symm z1.symm
        have e31 : m31 n d m e = ((m34 n d m e).1, (m34 n d m e).2, 0) := by simp only [m31, e66, x3, hc, u3, decide_true, cond_true, cond_false]
        have f31 : n31 n d m e = true := by simp only [n31, f66, e66, x2, x3, hc, g1, u1, decide_true, cond_true, cond_false, Bool.and_self]
        have e31' : m31 m e n d = ((m34 n d m e).1, (m34 n d m e).2, 0) := by simp only [m31, e66', y3, hc', u5, decide_true, cond_true, cond_false]
        have f31' : n31 m e n d = true := by simp only [n31, f66', e66', y2, y3, hc', g1', v1, decide_true, cond_true, cond_false, Bool.and_self]
        cases hM : m16 M 0 30000 with
        | true =>
          have h69 : m69 M = true := hM
          have hM' := m52_iff.1 (show m52 M 0 30000 = true from hM)
          obtain ⟨f32, e32, _⟩ := near_ok P Q z0 z1 hM'
          have e32b : (m32 n d m e M).1 = decide ((m34 n d m e).2 ≤ M) := by
            have hsm := (dist_ok P.trk Q.trk z0 z1).2.1
            have l := less_sm (a := M) (b := 1) ⟨⟨hM'.1, by omega⟩, by omega⟩ hsm
            simp only [m32, e66, h69, x3, hc, l, Int.mul_one, decide_true, cond_true, cond_false]
            by_cases hh : M * (m68 n d m e).2 < (m68 n d m e).1
            · have := (u4 M).1 hh
              rw [decide_eq_true hh, decide_eq_false (show ¬ (m34 n d m e).2 ≤ M by omega)]; rfl
            · have : ¬ M < (m34 n d m e).2 := fun h => hh ((u4 M).2 h)
              rw [decide_eq_false hh, decide_eq_true (show (m34 n d m e).2 ≤ M by omega)]; rfl
          have hbb : ∀ b : Bool, decide (b = b) = true := fun b => decide_eq_true rfl
          exact ⟨by simp only [n5, n10_t, m10_t, hs, ht, k1, k2, copy_eq, f31, f32, f31', u2, c2, c3, b2, b3, hM, x1, hc, e31, e31', e32, e32b, hdd, hbb, decide_true, cond_true, cond_false, Bool.and_self, Bool.and_true, Bool.cond_self], by simp only [m5, m10_t, hs, ht, copy_eq, c3, b3, hM, hc, e31, e31', e32, e32b, hdd, hbb, decide_true, cond_true, cond_false, Bool.cond_self]⟩
        | false =>
          have h69 : m69 M = false := hM
          have e32 : m32 n d m e M = (false, 2) := by simp only [m32, e66, h69, decide_true, cond_true, cond_false]
          have f32 : n32 n d m e M = true := by simp only [n32, f66, e66, h69, decide_true, cond_true, cond_false, Bool.and_self]
          exact ⟨by simp only [n5, n10_t, m10_t, hs, ht, k1, k2, copy_eq, f31, f32, f31', u2, c2, c3, b2, b3, hM, x1, hc, e31, e31', e32, hdd, decide_true, cond_true, cond_false, Bool.and_self, Bool.and_true, Bool.cond_self], by simp only [m5, m10_t, hs, ht, copy_eq, c3, b3, hM, hc, e31, e31', e32, hdd, decide_true, cond_true, cond_false, Bool.cond_self]⟩
    · have e66 : m66 n d m e = m15 m e := by simp only [m66, h0]; rfl
      have f66 : n66 n d m e = true := by simp only [n66, c1, h0, b1]; rfl
      have hg := decide_eq_false g0
      have e31 : m31 n d m e = (0, 0, m15 m e) := by simp only [m31, e66, hg, decide_true, cond_true, cond_false]
      have f31 : n31 n d m e = true := by simp only [n31, f66, e66, hg, decide_true, cond_true, cond_false, Bool.and_self]
      have e32 : m32 n d m e M = (false, m15 m e) := by simp only [m32, e66, hg, cond_true, cond_false]
      have f32 : n32 n d m e M = true := by simp only [n32, f66, e66, hg, cond_true, cond_false, Bool.and_self]
      exact ⟨by simp only [n5, n10_t, m10_t, hs, ht, k1, k2, copy_eq, f31, f32, c2, c3, b2, b3, hg, e31, e32, hdd, decide_true, cond_true, cond_false, Bool.and_self, Bool.and_true, Bool.cond_self], by simp only [m5, m10_t, hs, ht, copy_eq, c3, b3, hg, e31, e32, hdd, decide_true, cond_true, cond_false, Bool.cond_self]⟩
  · have hh := decide_eq_false h0
    have e66 : m66 n d m e = m15 n d := by simp only [m66, hh, cond_true, cond_false]
    have f66 : n66 n d m e = true := by simp only [n66, c1, hh, cond_true, cond_false, Bool.and_self]
    have e31 : m31 n d m e = (0, 0, m15 n d) := by simp only [m31, e66, hh, decide_true, cond_true, cond_false]
    have f31 : n31 n d m e = true := by simp only [n31, f66, e66, hh, decide_true, cond_true, cond_false, Bool.and_self]
    have e32 : m32 n d m e M = (false, m15 n d) := by simp only [m32, e66, hh, cond_true, cond_false]
    have f32 : n32 n d m e M = true := by simp only [n32, f66, e66, hh, cond_true, cond_false, Bool.and_self]
    exact ⟨by simp only [n5, n10_t, m10_t, hs, ht, k1, k2, copy_eq, f31, f32, c2, c3, b2, b3, hh, e31, e32, hdd, decide_true, cond_true, cond_false, Bool.and_self, Bool.and_true, Bool.cond_self], by simp only [m5, m10_t, hs, ht, copy_eq, c3, b3, hh, e31, e32, hdd, decide_true, cond_true, cond_false, Bool.cond_self]⟩
end Go.Proofs.YtchhhoamnagbfaaDoor

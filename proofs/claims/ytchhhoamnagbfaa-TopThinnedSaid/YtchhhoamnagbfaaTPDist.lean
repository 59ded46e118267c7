/-
  The distance of profiles, and of a profile from some of its points: plain law. Conditions: none.
-/
import Derived.Test.YtchhhoamnagbfaaTPTrack
namespace Go.Proofs.Ytchhhoamnagbfaa
open Go Go.Sy
set_option linter.unusedVariables false
set_option linter.unusedSimpArgs false
set_option maxRecDepth 100000
attribute [local simp] brk
def Sm (a b : Int) : Prop := (0 ≤ a ∧ a ≤ 60000060000) ∧ (1 ≤ b ∧ b ≤ 1000001)
theorem less_sm {a b c e : Int} (h : Sm a b) (k : Sm c e) : m22 a b c e = decide (a * e < c * b) := by
  have p1 := mulb h.1.1 h.1.2 (show 0 ≤ e by have := k.2; omega) k.2.2
  have p2 := mulb k.1.1 k.1.2 (show 0 ≤ b by have := h.2; omega) h.2.2
  simp only [m22]
  rw [wr (n := a * e) (by omega) (by omega), wr (n := c * b) (by omega) (by omega)]
theorem less_or {a b c e K : Int} (hK : 0 ≤ K) (hb : 1 ≤ b) (he : 1 ≤ e) : (a * e < c * b → (K * e < c ↔ K * b < a ∨ K * e < c)) ∧ (¬ a * e < c * b → (K * b < a ↔ K * b < a ∨ K * e < c)) := by
  constructor
  · intro h
    refine ⟨.inr, fun h1 => ?_⟩
    rcases h1 with h1 | h1
    · apply Decidable.byContradiction
      intro h2
      have a1 : c * b ≤ K * e * b := Int.mul_le_mul_of_nonneg_right (by omega) (by omega)
      have a2 : K * b * e ≤ a * e := Int.mul_le_mul_of_nonneg_right (by omega) (by omega)
      have a3 : K * e * b = K * b * e := by grind
      omega
    · exact h1
  · intro h
    refine ⟨.inl, fun h1 => ?_⟩
    rcases h1 with h1 | h1
    · exact h1
    · apply Decidable.byContradiction
      intro h2
      have a1 : a * e ≤ K * b * e := Int.mul_le_mul_of_nonneg_right (by omega) (by omega)
      have a2 : (K * e + 1) * b ≤ c * b := Int.mul_le_mul_of_nonneg_right (by omega) (by omega)
      have a3 : (K * e + 1) * b = K * b * e + b := by grind
      omega
section
variable {n m : Nat} {d e : Dat}
def farAt (n : Nat) (d : Dat) (m : Nat) (e : Dat) (K x : Int) : Prop := K * (m35 n d m e x).2 < (m35 n d m e x).1
theorem dist_run {v : Nat} {D : Dat} (hv : v ≤ 1000) (hA : ∀ i, i < v → n35 n d m e (D.ii i 0) = true ∧ Sm (m35 n d m e (D.ii i 0)).1 (m35 n d m e (D.ii i 0)).2) (p0 p2 : Nat) (p1 p3 : Dat) (t a b : Int) : ∀ (k i f : Nat) (bn bd : Int), i + k = v → k < f → Sm bn bd →
    ∃ rn rd, l23_2 n d m e p0 p1 p2 p3 t v D (v : Int) a b f (i : Int) bn bd = some (rn, rd) ∧ Sm rn rd ∧ ∀ K, 0 ≤ K → (K * rd < rn ↔ K * bd < bn ∨ ∃ j, i ≤ j ∧ j < v ∧ farAt n d m e K (D.ii j 0))
  | 0, i, f, bn, bd, hi, hf, hS => by
    obtain ⟨f, rfl⟩ : ∃ f', f = f' + 1 := ⟨f - 1, by omega⟩
    obtain rfl : i = v := by omega
    exact ⟨bn, bd, by simp only [l23_2, cdn, cond_false], hS, fun K _ => ⟨.inl, fun h => h.elim id fun ⟨j, h1, h2, _⟩ => by omega⟩⟩
  | k + 1, i, f, bn, bd, hi, hf, hS => by
    obtain ⟨f, rfl⟩ : ∃ f', f = f' + 1 := ⟨f - 1, by omega⟩
    have hlt : i < v := by omega
    obtain ⟨a1, a2⟩ := hA i hlt
    have hl := less_sm hS a2
    have lo := fun K (hK : 0 ≤ K) => less_or (a := bn) (b := bd) (c := (m35 n d m e (D.ii i 0)).1) (e := (m35 n d m e (D.ii i 0)).2) hK hS.2.1 a2.2.1
    by_cases hh : bn * (m35 n d m e (D.ii i 0)).2 < (m35 n d m e (D.ii i 0)).1 * bd
    · rw [decide_eq_true hh] at hl
      obtain ⟨rn, rd, g1, g2, g3⟩ := dist_run hv hA p0 p2 p1 p3 t a b k (i + 1) f _ _ (by omega) (by omega) a2
      refine ⟨rn, rd, ?_, g2, fun K hK => ?_⟩
      · simp only [l23_2, cdl hlt, cdd hlt, Int.toNat_natCast, a1, hl, wrS hlt (by omega), cond_true]
        exact g1
      · rw [g3 K hK, (lo K hK).1 hh]
        constructor
        · rintro ((h | h) | ⟨j, h1, h2, h3⟩)
          · exact .inl h
          · exact .inr ⟨i, Nat.le_refl _, hlt, h⟩
          · exact .inr ⟨j, by omega, h2, h3⟩
        · rintro (h | ⟨j, h1, h2, h3⟩)
          · exact .inl (.inl h)
          · by_cases hj : j = i
            · subst hj; exact .inl (.inr h3)
            · exact .inr ⟨j, by omega, h2, h3⟩
    · rw [decide_eq_false hh] at hl
      obtain ⟨rn, rd, g1, g2, g3⟩ := dist_run hv hA p0 p2 p1 p3 t a b k (i + 1) f _ _ (by omega) (by omega) hS
      refine ⟨rn, rd, ?_, g2, fun K hK => ?_⟩
      · simp only [l23_2, cdl hlt, cdd hlt, Int.toNat_natCast, a1, hl, wrS hlt (by omega), cond_true, cond_false]
        exact g1
      · rw [g3 K hK]
        constructor
        · rintro (h | ⟨j, h1, h2, h3⟩)
          · exact .inl h
          · exact .inr ⟨j, by omega, h2, h3⟩
        · rintro (h | ⟨j, h1, h2, h3⟩)
          · exact .inl h
          · by_cases hj : j = i
            · subst hj
              exact .inl (((lo K hK).2 hh).2 (.inr h3))
            · exact .inr ⟨j, by omega, h2, h3⟩
theorem apart_sm (T : Trk n d) (U : Trk m e) (h0 : d.ii 0 0 = e.ii 0 0) (h1 : d.ii (n - 1) 0 = e.ii (m - 1) 0) {x : Int} (hx : (∃ k, k < n ∧ x = d.ii k 0) ∨ ∃ k, k < m ∧ x = e.ii k 0) : n35 n d m e x = true ∧ Sm (m35 n d m e x).1 (m35 n d m e x).2 ∧ ∃ n1 d1 n2 d2, At n d x n1 d1 ∧ At m e x n2 d2 ∧ m35 n d m e x = (iabs (n1 * d2 - n2 * d1), d1 * d2) := by
  have tn := T.two; have tm := U.two
  have hr : d.ii 0 0 ≤ x ∧ x ≤ d.ii (n - 1) 0 := by
    rcases hx with ⟨k, hk, rfl⟩ | ⟨k, hk, rfl⟩
    · exact ⟨T.le (Nat.zero_le _) hk, T.le (by omega) (by omega)⟩
    · rw [h0, h1]; exact ⟨U.le (Nat.zero_le _) hk, U.le (by omega) (by omega)⟩
  obtain ⟨g1, n1, d1, n2, d2, A, B, ge⟩ := apart_ok T U hr.1 hr.2 (by rw [← h0]; exact hr.1) (by rw [← h1]; exact hr.2)
  refine ⟨g1, ?_, n1, d1, n2, d2, A, B, ge⟩
  have a := A.bnd T
  have b := B.bnd U
  rw [ge]
  rcases hx with ⟨k, hk, rfl⟩ | ⟨k, hk, rfl⟩
  · obtain ⟨rfl, rfl⟩ := A.at_point T hk
    have dk := T.dep k hk
    have p := mulb dk.1 dk.2 (show 0 ≤ d2 by omega) b.1.2
    have q := iabs_bnd (x := d.ii k 1 * d2 - n2 * 1) (B := 60000060000) (by omega) (by omega)
    exact ⟨q, by show 1 ≤ 1 * d2 ∧ 1 * d2 ≤ _; omega⟩
  · obtain ⟨rfl, rfl⟩ := B.at_point U hk
    have dk := U.dep k hk
    have p := mulb dk.1 dk.2 (show 0 ≤ d1 by omega) a.1.2
    have q := iabs_bnd (x := n1 * 1 - e.ii k 1 * d1) (B := 60000060000) (by omega) (by omega)
    exact ⟨q, by show 1 ≤ d1 * 1 ∧ d1 * 1 ≤ _; omega⟩
theorem o23_ok {v : Nat} {D : Dat} (hv : v ≤ 1000) (hA : ∀ i, i < v → n35 n d m e (D.ii i 0) = true ∧ Sm (m35 n d m e (D.ii i 0)).1 (m35 n d m e (D.ii i 0)).2) (p0 p2 : Nat) (p1 p3 : Dat) (t : Int) (bn bd : Int) (hS : Sm bn bd) :
    ∃ rn rd, o23_2 n d m e p0 p1 p2 p3 t v D (v : Int) 0 0 0 bn bd = some (rn, rd) ∧ Sm rn rd ∧ ∀ K, 0 ≤ K → (K * rd < rn ↔ K * bd < bn ∨ ∃ j, j < v ∧ farAt n d m e K (D.ii j 0)) := by
  have h := fun F (hF : v < F) => dist_run (n := n) (m := m) (d := d) (e := e) hv hA p0 p2 p1 p3 t 0 0 v 0 F bn bd (by omega) hF hS
  unfold o23_2
  generalize t.toNat = y1
  generalize bn.toNat = y2
  generalize bd.toNat = y3
  obtain ⟨rn, rd, h1, h2, h3⟩ := h (n + m + p0 + p2 + y1 + v + (v : Int).toNat + (0 : Int).toNat + (0 : Int).toNat + (0 : Int).toNat + y2 + y3 + 8) (by omega)
  refine ⟨rn, rd, h1, h2, fun K hK => ?_⟩
  rw [h3 K hK]
  constructor
  · rintro (h | ⟨j, _, h⟩)
    · exact .inl h
    · exact .inr ⟨j, h⟩
  · rintro (h | ⟨j, h⟩)
    · exact .inl h
    · exact .inr ⟨j, Nat.zero_le _, h⟩
theorem dist_ok (T : Trk n d) (U : Trk m e) (h0 : d.ii 0 0 = e.ii 0 0) (h1 : d.ii (n - 1) 0 = e.ii (m - 1) 0) : n23 n d m e = true ∧ Sm (m23 n d m e).1 (m23 n d m e).2 ∧
    ∀ K, 0 ≤ K → (K * (m23 n d m e).2 < (m23 n d m e).1 ↔ (∃ j, j < n ∧ farAt n d m e K (d.ii j 0)) ∨ ∃ j, j < m ∧ farAt n d m e K (e.ii j 0)) := by
  have fn := T.few; have fm := U.few
  obtain ⟨an, ad, a1, a2, a3⟩ := o23_ok (n := n) (m := m) (d := d) (e := e) (v := n) (D := d) (by omega) (fun i hi => by have := apart_sm T U h0 h1 (.inl ⟨i, hi, rfl⟩); exact ⟨this.1, this.2.1⟩) n m d e 0 0 1 ⟨by omega, by omega⟩
  obtain ⟨bn, bd, b1, b2, b3⟩ := o23_ok (n := n) (m := m) (d := d) (e := e) (v := m) (D := e) (by omega) (fun i hi => by have := apart_sm T U h0 h1 (.inr ⟨i, hi, rfl⟩); exact ⟨this.1, this.2.1⟩) n m d e 1 an ad a2
  have e23 : m23 n d m e = (bn, bd) := by simp only [m23, a1, Option.getD_some, b1]
  refine ⟨by simp only [n23, a1, Option.getD_some, b1]; rfl, by rw [e23]; exact b2, fun K hK => ?_⟩
  rw [e23]
  simp only
  rw [b3 K hK, a3 K hK]
  constructor
  · rintro ((h | h) | h)
    · omega
    · exact .inl h
    · exact .inr h
  · rintro (h | h)
    · exact .inl (.inr h)
    · exact .inr h
theorem near_ok (P : Pts n d) (Q : Pts m e) (h0 : d.ii 0 0 = e.ii 0 0) (h1 : d.ii (n - 1) 0 = e.ii (m - 1) 0) {M : Int} (hM : 0 ≤ M ∧ M ≤ 30000) : n9 n d m e M = true ∧ (m9 n d m e M).2 = 0 ∧
    ((m9 n d m e M).1 = true ↔ (∀ j, j < n → ¬ farAt n d m e M (d.ii j 0)) ∧ ∀ j, j < m → ¬ farAt n d m e M (e.ii j 0)) := by
  have fn := P.few; have fm := Q.few; have tn := P.two; have tm := Q.two
  obtain ⟨c1, _, _, c4⟩ := check_ok (n := n) (d := d) (by omega)
  obtain ⟨k1, _, _, k4⟩ := check_ok (n := m) (d := e) (by omega)
  have c4 := c4.2 P
  have k4 := k4.2 Q
  obtain ⟨g1, g2, g3⟩ := dist_ok P.trk Q.trk h0 h1
  have z19 : n19 n d m e = true := by simp only [n19, c1, c4, k1]; rfl
  have y19 : m19 n d m e = 0 := by simp only [m19, c4, k4]; rfl
  have y20 : m20 M = true := m25_iff.2 hM
  have w1 : IntKind.i64.wrap ((n : Int) - 1) = (n : Int) - 1 := wr (by omega) (by omega)
  have w2 : IntKind.i64.wrap ((m : Int) - 1) = (m : Int) - 1 := wr (by omega) (by omega)
  have t1 : ((n : Int) - 1).toNat = n - 1 := by omega
  have t2 : ((m : Int) - 1).toNat = m - 1 := by omega
  have z21 : n21 n d m e = true := by
    simp only [n21, n30, w1, w2, decide_eq_true (show (0 : Int) ≤ (0 : Int) ∧ (0 : Int) < (n : Int) by omega), decide_eq_true (show (0 : Int) ≤ (0 : Int) ∧ (0 : Int) < (m : Int) by omega), decide_eq_true (show 0 ≤ (n : Int) - 1 ∧ (n : Int) - 1 < (n : Int) by omega), decide_eq_true (show 0 ≤ (m : Int) - 1 ∧ (m : Int) - 1 < (m : Int) by omega), decide_eq_true h0]; rfl
  have y21 : m21 n d m e = false := by simp only [m21, m30, w1, w2, t1, t2, decide_eq_true h0, decide_eq_true h1]; rfl
  have y22 : m22 M 1 (m23 n d m e).1 (m23 n d m e).2 = decide (M * (m23 n d m e).2 < (m23 n d m e).1) := by
    rw [less_sm ⟨⟨hM.1, by omega⟩, by omega⟩ g2, Int.mul_one]
  refine ⟨by simp only [n9, z19, y19, y20, z21, y21, g1, decide_true, cond_true, cond_false]; rfl, by simp only [m9, y19, y20, y21, decide_true, cond_true, cond_false], ?_⟩
  have e9 : (m9 n d m e M).1 = !decide (M * (m23 n d m e).2 < (m23 n d m e).1) := by
    simp only [m9, y19, y20, y21, y22, decide_true, cond_true, cond_false]
    cases decide (M * (m23 n d m e).2 < (m23 n d m e).1) <;> rfl
  rw [e9]
  have g := g3 M hM.1
  constructor
  · intro h
    have h : ¬ M * (m23 n d m e).2 < (m23 n d m e).1 := by simpa using h
    exact ⟨fun j hj hh => h (g.2 (.inl ⟨j, hj, hh⟩)), fun j hj hh => h (g.2 (.inr ⟨j, hj, hh⟩))⟩
  · rintro ⟨h2, h3⟩
    have : ¬ M * (m23 n d m e).2 < (m23 n d m e).1 := fun hh => by
      rcases g.1 hh with ⟨j, hj, k⟩ | ⟨j, hj, k⟩
      · exact h2 j hj k
      · exact h3 j hj k
    simp [this]
end
structure Idx (n c : Nat) (D : Dat) : Prop where
  pos : 0 < c
  at_ : ∀ q, q < c → 0 ≤ D.ii q 0 ∧ D.ii q 0 < (n : Int)
  up : ∀ q, q + 1 < c → D.ii q 0 < D.ii (q + 1) 0
  first : D.ii 0 0 = 0
  last : D.ii (c - 1) 0 = (n : Int) - 1
def K (D : Dat) (q : Nat) : Nat := (D.ii q 0).toNat
section
variable {n c : Nat} {D : Dat} (I : Idx n c D)
include I
theorem Idx.k {q : Nat} (hq : q < c) : K D q < n ∧ ((K D q : Nat) : Int) = D.ii q 0 := by
  have := I.at_ q hq
  unfold K; omega
theorem Idx.ge : ∀ q, q < c → (q : Int) ≤ D.ii q 0
  | 0, _ => by rw [I.first]; exact Int.le_refl _
  | q + 1, h => by have := I.up q h; have := Idx.ge q (by omega); omega
theorem Idx.le : c ≤ n := by
  have h1 := I.ge (c - 1) (by have := I.pos; omega)
  rw [I.last] at h1
  have := I.pos
  omega
theorem Idx.kup {q : Nat} (h : q + 1 < c) : K D q < K D (q + 1) := by
  have := I.up q h; have := I.at_ q (by omega); have := I.at_ (q + 1) h
  unfold K; omega
theorem Idx.find {k : Nat} : ∀ t, t < c → k ≤ K D t → (∃ q, q < c ∧ K D q = k) ∨ ∃ q, q + 1 < c ∧ K D q < k ∧ k < K D (q + 1)
  | 0, h, hk => by
    have : K D 0 = 0 := by unfold K; rw [I.first]; rfl
    exact .inl ⟨0, h, by omega⟩
  | t + 1, h, hk => by
    by_cases e : k ≤ K D t
    · exact Idx.find t (by omega) e
    · by_cases e2 : K D (t + 1) = k
      · exact .inl ⟨t + 1, h, e2⟩
      · exact .inr ⟨t, h, by omega, by omega⟩
theorem Idx.find' {k : Nat} (hk : k < n) : (∃ q, q < c ∧ K D q = k) ∨ ∃ q, q + 1 < c ∧ K D q < k ∧ k < K D (q + 1) := by
  have := I.pos
  refine I.find (c - 1) (by omega) ?_
  unfold K; rw [I.last]; omega
end
def Pick (d : Dat) (c : Nat) (D E : Dat) : Prop := ∀ q, q < c → E.ii q 0 = d.ii (K D q) 0 ∧ E.ii q 1 = d.ii (K D q) 1
theorem pick_pts {n c : Nat} {d D E : Dat} (P : Pts n d) (I : Idx n c D) (hE : Pick d c D E) : Pts c E ∧ E.ii 0 0 = d.ii 0 0 ∧ E.ii (c - 1) 0 = d.ii (n - 1) 0 := by
  have hp := I.pos; have hle := I.le; have two := P.two; have few := P.few
  have k0 : K D 0 = 0 := by unfold K; rw [I.first]; rfl
  have kl : K D (c - 1) = n - 1 := by unfold K; rw [I.last]; omega
  have h2 : 2 ≤ c := by
    apply Decidable.byContradiction
    intro h
    have : c = 1 := by omega
    subst this
    have : K D 0 = n - 1 := kl
    omega
  refine ⟨⟨h2, by omega, fun i hi => ?_, fun i hi => ?_, fun i hi => ?_⟩, by rw [(hE 0 hp).1, k0], by rw [(hE (c - 1) (by omega)).1, kl]⟩
  · rw [(hE i hi).1]; exact P.sec _ (I.k hi).1
  · rw [(hE i hi).2]; exact P.dep _ (I.k hi).1
  · rw [(hE i (by omega)).1, (hE (i + 1) hi).1]; exact P.trk.lt (I.kup hi) (I.k hi).1
theorem iabs_neg (x : Int) : iabs (-x) = iabs x := by unfold iabs; split <;> split <;> omega
theorem near_sub {n c : Nat} {d D E : Dat} (P : Pts n d) (I : Idx n c D) (hE : Pick d c D E) {M : Int} (hM : 0 ≤ M ∧ M ≤ 30000) : n9 n d c E M = true ∧ (m9 n d c E M).2 = 0 ∧ ((m9 n d c E M).1 = true ↔ ∀ q, q + 1 < c → Ok d M (K D q) (K D (q + 1))) := by
  obtain ⟨Q, e0, e1⟩ := pick_pts P I hE
  obtain ⟨a1, a2, a3⟩ := near_ok P Q e0.symm e1.symm hM
  refine ⟨a1, a2, a3.trans ?_⟩
  have T := P.trk; have U := Q.trk
  -- at a kept point they are not apart
  have kept : ∀ q, q < c → ¬ farAt n d c E M (d.ii (K D q) 0) := fun q hq hf => by
    obtain ⟨_, _, n1, d1, n2, d2, A, B, ge⟩ := apart_sm T U e0.symm e1.symm (x := d.ii (K D q) 0) (.inl ⟨_, (I.k hq).1, rfl⟩)
    obtain ⟨rfl, rfl⟩ := A.at_point T (I.k hq).1
    rw [← (hE q hq).1] at B
    obtain ⟨rfl, rfl⟩ := B.at_point U hq
    unfold farAt at hf
    rw [ge, (hE q hq).2, Int.sub_self] at hf
    have : iabs 0 = 0 := rfl
    simp only [this] at hf
    omega
  -- between two kept ones
  have btw : ∀ q k, q + 1 < c → K D q < k → k < K D (q + 1) → (farAt n d c E M (d.ii k 0) ↔ ¬ okAt d M (K D q) (K D (q + 1)) k) := fun q k hq h1 h2 => by
    have kn := (I.k hq).1
    obtain ⟨_, _, n1, d1, n2, d2, A, B, ge⟩ := apart_sm T U e0.symm e1.symm (x := d.ii k 0) (.inl ⟨k, by omega, rfl⟩)
    obtain ⟨rfl, rfl⟩ := A.at_point T (show k < n by omega)
    have s1 := T.lt h1 (show k < n by omega)
    have s2 := T.lt h2 kn
    obtain ⟨rfl, rfl⟩ := B.between U hq (by rw [(hE q (by omega)).1]; exact s1) (by rw [(hE (q + 1) hq).1]; exact s2)
    rw [(hE q (by omega)).1, (hE (q + 1) hq).1, (hE q (by omega)).2, (hE (q + 1) hq).2] at ge
    unfold farAt okAt
    rw [ge, Int.mul_one, Int.one_mul]
    rw [← iabs_neg (d.ii k 1 * (d.ii (K D (q + 1)) 0 - d.ii (K D q) 0) - (d.ii (K D q) 1 * (d.ii (K D (q + 1)) 0 - d.ii k 0) + d.ii (K D (q + 1)) 1 * (d.ii k 0 - d.ii (K D q) 0)))]
    rw [Int.neg_sub]
    simp only
    omega
  constructor
  · rintro ⟨h1, _⟩ q hq k k1 k2
    have kn := (I.k hq).1
    apply Classical.byContradiction
    intro hh
    exact h1 k (by omega) ((btw q k hq k1 k2).2 hh)
  · intro h
    have all : ∀ j, j < n → ¬ farAt n d c E M (d.ii j 0) := fun j hj => by
      rcases I.find' hj with ⟨q, hq, rfl⟩ | ⟨q, hq, k1, k2⟩
      · exact kept q hq
      · exact fun hf => (btw q j hq k1 k2).1 hf (h q hq j k1 k2)
    exact ⟨all, fun j hj => by rw [(hE j hj).1]; exact all _ (I.k hj).1⟩
theorem depth_sub {n c : Nat} {d D E : Dat} (P : Pts n d) (I : Idx n c D) (hE : Pick d c D E) {M : Int} (hM : 0 ≤ M ∧ M ≤ 30000) (hok : ∀ q, q + 1 < c → Ok d M (K D q) (K D (q + 1))) {j : Nat} (hj : j < n) :
    n10 c E (d.ii j 0) = true ∧ (m10 c E (d.ii j 0)).2.2 = 0 ∧ d.ii j 1 - M ≤ (m10 c E (d.ii j 0)).2.1 ∧ (m10 c E (d.ii j 0)).1 ≤ d.ii j 1 + M := by
  obtain ⟨Q, e0, e1⟩ := pick_pts P I hE
  have T := P.trk; have U := Q.trk
  have fm := Q.few; have tm := Q.two; have tn := P.two
  obtain ⟨k1, _, _, k4⟩ := check_ok (n := c) (d := E) (by omega)
  have k4 := k4.2 Q
  have r0 : E.ii 0 0 ≤ d.ii j 0 := by rw [e0]; exact T.le (Nat.zero_le _) hj
  have r1 : d.ii j 0 ≤ E.ii (c - 1) 0 := by rw [e1]; exact T.le (by omega) (by omega)
  obtain ⟨a1, a2⟩ := at_ok U r0 r1
  have ab := a2.bnd U
  have w1 : IntKind.i64.wrap ((c : Int) - 1) = (c : Int) - 1 := wr (by omega) (by omega)
  have t1 : ((c : Int) - 1).toNat = c - 1 := by omega
  have z25 : m25 (d.ii j 0) (E.ii 0 0) (E.ii (c - 1) 0) = true := m25_iff.2 ⟨r0, r1⟩
  -- how far it may be
  have dj := P.dep j hj
  have key : (d.ii j 1 - M) * (m26 c E (d.ii j 0)).2 ≤ (m26 c E (d.ii j 0)).1 ∧ (m26 c E (d.ii j 0)).1 ≤ (d.ii j 1 + M) * (m26 c E (d.ii j 0)).2 := by
    rcases I.find' hj with ⟨q, hq, rfl⟩ | ⟨q, hq, q1, q2⟩
    · rw [← (hE q hq).1] at a2 ⊢
      obtain ⟨g1, g2⟩ := a2.at_point U hq
      rw [g1, g2, (hE q hq).2]; omega
    · have kn := (I.k hq).1
      have s1 := T.lt q1 hj
      have s2 := T.lt q2 kn
      obtain ⟨g1, g2⟩ := a2.between U hq (by rw [(hE q (by omega)).1]; exact s1) (by rw [(hE (q + 1) hq).1]; exact s2)
      rw [(hE q (by omega)).1, (hE (q + 1) hq).1, (hE q (by omega)).2, (hE (q + 1) hq).2] at g1
      rw [(hE q (by omega)).1, (hE (q + 1) hq).1] at g2
      have o := hok q hq j q1 q2
      unfold okAt at o
      rw [g1, g2]
      generalize d.ii (K D q) 1 * (d.ii (K D (q + 1)) 0 - d.ii j 0) + d.ii (K D (q + 1)) 1 * (d.ii j 0 - d.ii (K D q) 0) = X at *
      generalize d.ii (K D (q + 1)) 0 - d.ii (K D q) 0 = W at *
      rw [Int.sub_mul, Int.add_mul]
      unfold iabs at o
      split at o <;> omega
  generalize hN : (m26 c E (d.ii j 0)).1 = X at *
  generalize hW : (m26 c E (d.ii j 0)).2 = W at *
  have q0 := Int.ediv_nonneg ab.2.1 (show 0 ≤ W by omega)
  have q1 := Int.ediv_le_self W ab.2.1
  have q2 := Int.ediv_nonneg (show 0 ≤ X + W - 1 by omega) (show 0 ≤ W by omega)
  have q3 := Int.ediv_le_self W (show 0 ≤ X + W - 1 by omega)
  have e27 : m27 X W = (X / W, (X + W - 1) / W) := by
    simp only [m27]
    rw [wr (n := X + W) (by omega) (by omega), wr (n := X + W - 1) (by omega) (by omega), Int.tdiv_eq_ediv_of_nonneg ab.2.1, Int.tdiv_eq_ediv_of_nonneg (by omega), wr (n := X / W) (by omega) (by omega), wr (n := (X + W - 1) / W) (by omega) (by omega)]
  have n27t : n27 X W = true := by simp only [n27, decide_eq_false (show ¬ W = 0 by omega)]; rfl
  have e10 : m10 c E (d.ii j 0) = (X / W, (X + W - 1) / W, 0) := by simp only [m10, k4, w1, t1, z25, hN, hW, e27, decide_true, cond_true, cond_false]
  refine ⟨?_, by rw [e10], ?_, ?_⟩
  · simp only [n10, k1, k4, w1, t1, z25, a1, hN, hW, n27t, decide_eq_true (show (0 : Int) ≤ (0 : Int) ∧ (0 : Int) < (c : Int) by omega), decide_eq_true (show 0 ≤ (c : Int) - 1 ∧ (c : Int) - 1 < (c : Int) by omega), decide_true, cond_true, cond_false]; rfl
  · rw [e10]
    have hw : 0 < W := by omega
    have m1 := Int.mul_ediv_add_emod (X + W - 1) W
    have m2 := Int.emod_lt_of_pos (X + W - 1) hw
    simp only
    apply Int.le_of_mul_le_mul_left _ hw
    have c1 : W * (d.ii j 1 - M) = (d.ii j 1 - M) * W := Int.mul_comm _ _
    omega
  · rw [e10]
    have hw : 0 < W := by omega
    have m1 := Int.mul_ediv_add_emod X W
    have m2 := Int.emod_nonneg X (show W ≠ 0 by omega)
    simp only
    apply Int.le_of_mul_le_mul_left _ hw
    have c1 : W * (d.ii j 1 + M) = (d.ii j 1 + M) * W := Int.mul_comm _ _
    omega
end Go.Proofs.Ytchhhoamnagbfaa

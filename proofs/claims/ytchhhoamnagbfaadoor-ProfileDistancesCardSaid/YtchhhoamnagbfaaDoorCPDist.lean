/-
  The distance of profiles, and of a profile from some of its points: plain law. Conditions: none.
-/
import Derived.Test.YtchhhoamnagbfaaDoorCPTrack
namespace Go.Proofs.YtchhhoamnagbfaaDoor
open Go Go.Sy
set_option linter.unusedVariables false
set_option linter.unusedSimpArgs false
set_option maxRecDepth 100000
attribute [local simp] brk
def Sm (a b : Int) : Prop := (0 ≤ a ∧ a ≤ 60000060000) ∧ (1 ≤ b ∧ b ≤ 1000001)
theorem less_sm {a b c e : Int} (h : Sm a b) (k : Sm c e) : m63 a b c e = decide (a * e < c * b) := by
  have p1 := mulb h.1.1 h.1.2 (show 0 ≤ e by have := k.2; omega) k.2.2
  have p2 := mulb k.1.1 k.1.2 (show 0 ≤ b by have := h.2; omega) h.2.2
  simp only [m63]
  rw [wr (n := a * e) (by omega) (by omega), wr (n := c * b) (by omega) (by omega)]
theorem less_or {a b c e K : Int} (hK : 0 ≤ K) (hb : 1 ≤ b) (he : 1 ≤ e) : (a * e < c * b → (K * e < c ↔ K * b < a ∨ K * e < c)) ∧ (¬ a * e < c * b → (K * b < a ↔ K * b < a ∨ K * e < c)) := by
  constructor
  · intro h
    refine ⟨.inr, fun h1 => ?_⟩
    rcases h1 with h1 | h1
    · apply Decidable.byContradiction
      intro h2
      have a1 : c * b ≤ K * e * b := Int.mul_le_mul_of_nonneg_right (by omega) (by omega)
      have a2 : K * b * e ≤ a * e := Int.mul_le_mul_of_nonneg_right (by omega) (by omega)
      have a3 : K * e * b = K * b * e := by grind
      omega
    · exact h1
  · intro h
    refine ⟨.inl, fun h1 => ?_⟩
    rcases h1 with h1 | h1
    · exact h1
    · apply Decidable.byContradiction
      intro h2
      have a1 : a * e ≤ K * b * e := Int.mul_le_mul_of_nonneg_right (by omega) (by omega)
      have a2 : (K * e + 1) * b ≤ c * b := Int.mul_le_mul_of_nonneg_right (by omega) (by omega)
      have a3 : (K * e + 1) * b = K * b * e + b := by grind
      omega
section
variable {n m : Nat} {d e : Dat}
def farAt (n : Nat) (d : Dat) (m : Nat) (e : Dat) (K x : Int) : Prop := K * (m95 n d m e x).2 < (m95 n d m e x).1
theorem dist_run {v : Nat} {D : Dat} (hv : v ≤ 1000) (hA : ∀ i, i < v → n95 n d m e (D.ii i 0) = true ∧ Sm (m95 n d m e (D.ii i 0)).1 (m95 n d m e (D.ii i 0)).2) (p0 p2 : Nat) (p1 p3 : Dat) (t a b : Int) : ∀ (k i f : Nat) (bn bd : Int), i + k = v → k < f → Sm bn bd →
    ∃ rn rd, l68_2 n d m e p0 p1 p2 p3 t v D (v : Int) a b f (i : Int) bn bd = some (rn, rd) ∧ Sm rn rd ∧ ∀ K, 0 ≤ K → (K * rd < rn ↔ K * bd < bn ∨ ∃ j, i ≤ j ∧ j < v ∧ farAt n d m e K (D.ii j 0))
  | 0, i, f, bn, bd, hi, hf, hS => by
    obtain ⟨f, rfl⟩ : ∃ f', f = f' + 1 := ⟨f - 1, by omega⟩
    obtain rfl : i = v := by omega
    exact ⟨bn, bd, by simp only [l68_2, cdn, cond_false], hS, fun K _ => ⟨.inl, fun h => h.elim id fun ⟨j, h1, h2, _⟩ => by omega⟩⟩
  | k + 1, i, f, bn, bd, hi, hf, hS => by
    obtain ⟨f, rfl⟩ : ∃ f', f = f' + 1 := ⟨f - 1, by omega⟩
    have hlt : i < v := by omega
    obtain ⟨a1, a2⟩ := hA i hlt
    have hl := less_sm hS a2
    have lo := fun K (hK : 0 ≤ K) => less_or (a := bn) (b := bd) (c := (m95 n d m e (D.ii i 0)).1) (e := (m95 n d m e (D.ii i 0)).2) hK hS.2.1 a2.2.1
    by_cases hh : bn * (m95 n d m e (D.ii i 0)).2 < (m95 n d m e (D.ii i 0)).1 * bd
    · rw [decide_eq_true hh] at hl
      obtain ⟨rn, rd, g1, g2, g3⟩ := dist_run hv hA p0 p2 p1 p3 t a b k (i + 1) f _ _ (by omega) (by omega) a2
      refine ⟨rn, rd, ?_, g2, fun K hK => ?_⟩
      · simp only [l68_2, cdl hlt, cdd hlt, Int.toNat_natCast, a1, hl, wrS hlt (by omega), cond_true]
        exact g1
      · rw [g3 K hK, (lo K hK).1 hh]
        constructor
        · rintro ((h | h) | ⟨j, h1, h2, h3⟩)
          · exact .inl h
          · exact .inr ⟨i, Nat.le_refl _, hlt, h⟩
          · exact .inr ⟨j, by omega, h2, h3⟩
        · rintro (h | ⟨j, h1, h2, h3⟩)
          · exact .inl (.inl h)
          · by_cases hj : j = i
            · subst hj; exact .inl (.inr h3)
            · exact .inr ⟨j, by omega, h2, h3⟩
    · rw [decide_eq_false hh] at hl
      obtain ⟨rn, rd, g1, g2, g3⟩ := dist_run hv hA p0 p2 p1 p3 t a b k (i + 1) f _ _ (by omega) (by omega) hS
      refine ⟨rn, rd, ?_, g2, fun K hK => ?_⟩
      · simp only [l68_2, cdl hlt, cdd hlt, Int.toNat_natCast, a1, hl, wrS hlt (by omega), cond_true, cond_false]
        exact g1
      · rw [g3 K hK]
        constructor
        · rintro (h | ⟨j, h1, h2, h3⟩)
          · exact .inl h
          · exact .inr ⟨j, by omega, h2, h3⟩
        · rintro (h | ⟨j, h1, h2, h3⟩)
          · exact .inl h
          · by_cases hj : j = i
            · subst hj
              exact .inl (((lo K hK).2 hh).2 (.inr h3))
            · exact .inr ⟨j, by omega, h2, h3⟩
theorem apart_sm (T : Trk n d) (U : Trk m e) (h0 : d.ii 0 0 = e.ii 0 0) (h1 : d.ii (n - 1) 0 = e.ii (m - 1) 0) {x : Int} (hx : (∃ k, k < n ∧ x = d.ii k 0) ∨ ∃ k, k < m ∧ x = e.ii k 0) : n95 n d m e x = true ∧ Sm (m95 n d m e x).1 (m95 n d m e x).2 ∧ ∃ n1 d1 n2 d2, At n d x n1 d1 ∧ At m e x n2 d2 ∧ m95 n d m e x = (iabs (n1 * d2 - n2 * d1), d1 * d2) := by
  have tn := T.two; have tm := U.two
  have hr : d.ii 0 0 ≤ x ∧ x ≤ d.ii (n - 1) 0 := by
    rcases hx with ⟨k, hk, rfl⟩ | ⟨k, hk, rfl⟩
    · exact ⟨T.le (Nat.zero_le _) hk, T.le (by omega) (by omega)⟩
    · rw [h0, h1]; exact ⟨U.le (Nat.zero_le _) hk, U.le (by omega) (by omega)⟩
  obtain ⟨g1, n1, d1, n2, d2, A, B, ge⟩ := apart_ok T U hr.1 hr.2 (by rw [← h0]; exact hr.1) (by rw [← h1]; exact hr.2)
  refine ⟨g1, ?_, n1, d1, n2, d2, A, B, ge⟩
  have a := A.bnd T
  have b := B.bnd U
  rw [ge]
  rcases hx with ⟨k, hk, rfl⟩ | ⟨k, hk, rfl⟩
  · obtain ⟨rfl, rfl⟩ := A.at_point T hk
    have dk := T.dep k hk
    have p := mulb dk.1 dk.2 (show 0 ≤ d2 by omega) b.1.2
    have q := iabs_bnd (x := d.ii k 1 * d2 - n2 * 1) (B := 60000060000) (by omega) (by omega)
    exact ⟨q, by show 1 ≤ 1 * d2 ∧ 1 * d2 ≤ _; omega⟩
  · obtain ⟨rfl, rfl⟩ := B.at_point U hk
    have dk := U.dep k hk
    have p := mulb dk.1 dk.2 (show 0 ≤ d1 by omega) a.1.2
    have q := iabs_bnd (x := n1 * 1 - e.ii k 1 * d1) (B := 60000060000) (by omega) (by omega)
    exact ⟨q, by show 1 ≤ d1 * 1 ∧ d1 * 1 ≤ _; omega⟩
theorem o68_ok {v : Nat} {D : Dat} (hv : v ≤ 1000) (hA : ∀ i, i < v → n95 n d m e (D.ii i 0) = true ∧ Sm (m95 n d m e (D.ii i 0)).1 (m95 n d m e (D.ii i 0)).2) (p0 p2 : Nat) (p1 p3 : Dat) (t : Int) (bn bd : Int) (hS : Sm bn bd) :
    ∃ rn rd, o68_2 n d m e p0 p1 p2 p3 t v D (v : Int) 0 0 0 bn bd = some (rn, rd) ∧ Sm rn rd ∧ ∀ K, 0 ≤ K → (K * rd < rn ↔ K * bd < bn ∨ ∃ j, j < v ∧ farAt n d m e K (D.ii j 0)) := by
  have h := fun F (hF : v < F) => dist_run (n := n) (m := m) (d := d) (e := e) hv hA p0 p2 p1 p3 t 0 0 v 0 F bn bd (by omega) hF hS
  unfold o68_2
  generalize t.toNat = y1
  generalize bn.toNat = y2
  generalize bd.toNat = y3
  obtain ⟨rn, rd, h1, h2, h3⟩ := h (n + m + p0 + p2 + y1 + v + (v : Int).toNat + (0 : Int).toNat + (0 : Int).toNat + (0 : Int).toNat + y2 + y3 + 8) (by omega)
  refine ⟨rn, rd, h1, h2, fun K hK => ?_⟩
  rw [h3 K hK]
  constructor
  · rintro (h | ⟨j, _, h⟩)
    · exact .inl h
    · exact .inr ⟨j, h⟩
  · rintro (h | ⟨j, h⟩)
    · exact .inl h
    · exact .inr ⟨j, Nat.zero_le _, h⟩
theorem dist_ok (T : Trk n d) (U : Trk m e) (h0 : d.ii 0 0 = e.ii 0 0) (h1 : d.ii (n - 1) 0 = e.ii (m - 1) 0) : n68 n d m e = true ∧ Sm (m68 n d m e).1 (m68 n d m e).2 ∧
    ∀ K, 0 ≤ K → (K * (m68 n d m e).2 < (m68 n d m e).1 ↔ (∃ j, j < n ∧ farAt n d m e K (d.ii j 0)) ∨ ∃ j, j < m ∧ farAt n d m e K (e.ii j 0)) := by
  have fn := T.few; have fm := U.few
  obtain ⟨an, ad, a1, a2, a3⟩ := o68_ok (n := n) (m := m) (d := d) (e := e) (v := n) (D := d) (by omega) (fun i hi => by have := apart_sm T U h0 h1 (.inl ⟨i, hi, rfl⟩); exact ⟨this.1, this.2.1⟩) n m d e 0 0 1 ⟨by omega, by omega⟩
  obtain ⟨bn, bd, b1, b2, b3⟩ := o68_ok (n := n) (m := m) (d := d) (e := e) (v := m) (D := e) (by omega) (fun i hi => by have := apart_sm T U h0 h1 (.inr ⟨i, hi, rfl⟩); exact ⟨this.1, this.2.1⟩) n m d e 1 an ad a2
  have e23 : m68 n d m e = (bn, bd) := by simp only [m68, a1, Option.getD_some, b1]
  refine ⟨by simp only [n68, a1, Option.getD_some, b1]; rfl, by rw [e23]; exact b2, fun K hK => ?_⟩
  rw [e23]
  simp only
  rw [b3 K hK, a3 K hK]
  constructor
  · rintro ((h | h) | h)
    · omega
    · exact .inl h
    · exact .inr h
  · rintro (h | h)
    · exact .inl (.inr h)
    · exact .inr h
theorem near_ok (P : Pts n d) (Q : Pts m e) (h0 : d.ii 0 0 = e.ii 0 0) (h1 : d.ii (n - 1) 0 = e.ii (m - 1) 0) {M : Int} (hM : 0 ≤ M ∧ M ≤ 30000) : n32 n d m e M = true ∧ (m32 n d m e M).2 = 0 ∧
    ((m32 n d m e M).1 = true ↔ (∀ j, j < n → ¬ farAt n d m e M (d.ii j 0)) ∧ ∀ j, j < m → ¬ farAt n d m e M (e.ii j 0)) := by
  have fn := P.few; have fm := Q.few; have tn := P.two; have tm := Q.two
  obtain ⟨c1, _, _, c4⟩ := check_ok (n := n) (d := d) (by omega)
  obtain ⟨k1, _, _, k4⟩ := check_ok (n := m) (d := e) (by omega)
  have c4 := c4.2 P
  have k4 := k4.2 Q
  obtain ⟨g1, g2, g3⟩ := dist_ok P.trk Q.trk h0 h1
  have z19 : n66 n d m e = true := by simp only [n66, c1, c4, k1]; rfl
  have y19 : m66 n d m e = 0 := by simp only [m66, c4, k4]; rfl
  have y20 : m69 M = true := m52_iff.2 hM
  have w1 : IntKind.i64.wrap ((n : Int) - 1) = (n : Int) - 1 := wr (by omega) (by omega)
  have w2 : IntKind.i64.wrap ((m : Int) - 1) = (m : Int) - 1 := wr (by omega) (by omega)
  have t1 : ((n : Int) - 1).toNat = n - 1 := by omega
  have t2 : ((m : Int) - 1).toNat = m - 1 := by omega
  have z21 : n67 n d m e = true := by
    simp only [n67, n62, w1, w2, decide_eq_true (show (0 : Int) ≤ (0 : Int) ∧ (0 : Int) < (n : Int) by omega), decide_eq_true (show (0 : Int) ≤ (0 : Int) ∧ (0 : Int) < (m : Int) by omega), decide_eq_true (show 0 ≤ (n : Int) - 1 ∧ (n : Int) - 1 < (n : Int) by omega), decide_eq_true (show 0 ≤ (m : Int) - 1 ∧ (m : Int) - 1 < (m : Int) by omega), decide_eq_true h0]; rfl
  have y21 : m67 n d m e = false := by simp only [m67, m62, w1, w2, t1, t2, decide_eq_true h0, decide_eq_true h1]; rfl
  have y22 : m63 M 1 (m68 n d m e).1 (m68 n d m e).2 = decide (M * (m68 n d m e).2 < (m68 n d m e).1) := by
    rw [less_sm ⟨⟨hM.1, by omega⟩, by omega⟩ g2, Int.mul_one]
  refine ⟨by simp only [n32, z19, y19, y20, z21, y21, g1, decide_true, cond_true, cond_false]; rfl, by simp only [m32, y19, y20, y21, decide_true, cond_true, cond_false], ?_⟩
  have e9 : (m32 n d m e M).1 = !decide (M * (m68 n d m e).2 < (m68 n d m e).1) := by
    simp only [m32, y19, y20, y21, y22, decide_true, cond_true, cond_false]
    cases decide (M * (m68 n d m e).2 < (m68 n d m e).1) <;> rfl
  rw [e9]
  have g := g3 M hM.1
  constructor
  · intro h
    have h : ¬ M * (m68 n d m e).2 < (m68 n d m e).1 := by simpa using h
    exact ⟨fun j hj hh => h (g.2 (.inl ⟨j, hj, hh⟩)), fun j hj hh => h (g.2 (.inr ⟨j, hj, hh⟩))⟩
  · rintro ⟨h2, h3⟩
    have : ¬ M * (m68 n d m e).2 < (m68 n d m e).1 := fun hh => by
      rcases g.1 hh with ⟨j, hj, k⟩ | ⟨j, hj, k⟩
      · exact h2 j hj k
      · exact h3 j hj k
    simp [this]
end
structure Idx (n c : Nat) (D : Dat) : Prop where
  pos : 0 < c
  at_ : ∀ q, q < c → 0 ≤ D.ii q 0 ∧ D.ii q 0 < (n : Int)
  up : ∀ q, q + 1 < c → D.ii q 0 < D.ii (q + 1) 0
  first : D.ii 0 0 = 0
  last : D.ii (c - 1) 0 = (n : Int) - 1
def K (D : Dat) (q : Nat) : Nat := (D.ii q 0).toNat
section
variable {n c : Nat} {D : Dat} (I : Idx n c D)
include I
theorem Idx.k {q : Nat} (hq : q < c) : K D q < n ∧ ((K D q : Nat) : Int) = D.ii q 0 := by
  have := I.at_ q hq
  unfold K; omega
theorem Idx.ge : ∀ q, q < c → (q : Int) ≤ D.ii q 0
  | 0, _ => by rw [I.first]; exact Int.le_refl _
  | q + 1, h => by have := I.up q h; have := Idx.ge q (by omega); omega
theorem Idx.le : c ≤ n := by
  have h1 := I.ge (c - 1) (by have := I.pos; omega)
  rw [I.last] at h1
  have := I.pos
  omega
end
theorem iabs_neg (x : Int) : iabs (-x) = iabs x := by unfold iabs; split <;> split <;> omega
end Go.Proofs.YtchhhoamnagbfaaDoor

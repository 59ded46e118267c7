/-
  The law of normal forms: plain law. Conditions: none.
-/
import Derived.Test.YtchhhoamnagbfaaDoorIPDiffer
namespace Go.Proofs.YtchhhoamnagbfaaDoor
open Go Go.Sy
set_option linter.unusedVariables false
set_option linter.unusedSimpArgs false
set_option maxRecDepth 100000
theorem ln_alike {p p' c H W T S0 Z s : Int} (h1 : (p - c) * W = H * (S0 - Z)) (h2 : (p' - c) * W = H * (S0 + T - Z)) : (p * (S0 + T - s) + p' * (s - S0)) * W = (c * (Z + W - s) + (c + H) * (s - Z)) * T := by
  grind
theorem gases_same {n : Nat} (hn : n ≤ 9223372036854775807) {D E : Dat} (h : ∀ q, q < n → D.ii q 0 = E.ii q 0 ∧ D.ii q 1 = E.ii q 1) : n75 n D n E = true ∧ m75 n D n E = true := by
  have hl : o75_0 n D n E (n : Int) 0 = some (first (fun _ => none) (false, default, ()) n 0) := loop_first (n := n) (l := l75_0 n D n E (n : Int)) hn (fun f i hi => by
    have q := h i hi
    simp only [l75_0, cdl hi, cdd hi, cond_true, cond_false, Int.toNat_natCast, q.1, q.2, decide_true]; rfl) (fun f => by simp only [l75_0, cdn]; rfl) n 0 _ (by omega) (by omega)
  have hf : first (fun _ : Nat => (none : Option (Bool × Bool × Unit))) (false, default, ()) n 0 = (false, default, ()) := first_none fun _ _ _ => rfl
  rw [hf] at hl
  simp only [n75, m75, hl, decide_true]
  exact ⟨rfl, rfl⟩
theorem legs_same {n : Nat} (hn : n ≤ 9223372036854775807) {D E : Dat} (h : Ag n D E) : n76 n D n E = true ∧ m76 n D n E = true := by
  have hl : o76_0 n D n E (n : Int) 0 = some (first (fun _ => none) (false, default, ()) n 0) := loop_first (n := n) (l := l76_0 n D n E (n : Int)) hn (fun f i hi => by
    have q := h i hi
    simp only [l76_0, cdl hi, cdd hi, cond_true, cond_false, Int.toNat_natCast, q.1, q.2.1, q.2.2, decide_true]; rfl) (fun f => by simp only [l76_0, cdn]; rfl) n 0 _ (by omega) (by omega)
  have hf : first (fun _ : Nat => (none : Option (Bool × Bool × Unit))) (false, default, ()) n 0 = (false, default, ()) := first_none fun _ _ _ => rfl
  rw [hf] at hl
  simp only [n76, m76, hl, decide_true]
  exact ⟨rfl, rfl⟩
section
variable {a : ByteArray} {b : Int} {ng : Nat} {g : Dat} {L : Nat} {e : Dat} {c : Nat} {G : Dat} {n : Nat} {o : Dat}
theorem nf_pln (P : Pln a b ng g L e) (h : IsNf a b g L e (a, b, c, G, n, o)) : Pln a b c G n o := by
  obtain ⟨_, _, hc, hG, hn, hA⟩ := h
  simp only at hc hG hn hA
  have I := ni_all (g := g) P.leg L (Nat.le_refl _)
  have S := gst_ok (g := g) P.leg L (Nat.le_refl _)
  by_cases h0 : L = 0
  · rw [if_pos h0] at hc
    simp only [if_pos h0] at hG
    have : n = 0 := by have := I.cnt; omega
    subst this
    refine ⟨P.name, P.air, by omega, by omega, fun i hi => ?_, by decide, fun j hj => absurd hj (Nat.not_lt_zero _), fun j hj => ?_⟩
    · rw [(hG i hi).1, (hG i hi).2]; exact P.gas 0 (by have := P.some; omega)
    · rw [show j = 0 by omega]; simp only [sm]; decide
  · rw [if_neg h0] at hc
    simp only [if_neg h0] at hG
    obtain ⟨q0, hq0, _⟩ := S.has 0 (by omega)
    have few := S.few; have pf := P.few
    have bd := fun {q} (hq : q ≤ (lst g e L).1) => ni_bnd P (Nat.le_refl L) I hq
    refine ⟨P.name, P.air, by omega, by omega, fun i hi => ?_, by have := I.cnt; have := P.legs; omega, fun j hj => ?_, fun j hj => ?_⟩
    · obtain ⟨r, r1, r2, r3⟩ := S.gin i (by omega)
      rw [(hG i hi).1, (hG i hi).2, r2, r3]; exact P.gas r r1
    · have k := I.ok j (by omega)
      obtain ⟨a0, a1, a2⟩ := hA j (by omega)
      have b0 := bd (show j ≤ (lst g e L).1 by omega); have b1 := bd (show j + 1 ≤ (lst g e L).1 by omega)
      have s : sm (lst g e L).2 (j + 1) = sm (lst g e L).2 j + (lst g e L).2.ii j 0 := rfl
      refine ⟨by rw [a0]; omega, by rw [a1]; exact k.2.1, by rw [a2, hc]; exact k.2.2⟩
    · rw [Ag.sm hA (by omega)]; exact (bd (show j ≤ (lst g e L).1 by omega)).1.2
theorem nf_self (P : Pln a b ng g L e) (h : IsNf a b g L e (a, b, c, G, n, o)) : IsNf a b G n o (a, b, c, G, n, o) := by
  have X := nf_pln P h
  obtain ⟨_, _, hc, hG, hn, hA⟩ := h
  simp only at hc hG hn hA
  have I := ni_all (g := g) P.leg L (Nat.le_refl _)
  have S := gst_ok (g := g) P.leg L (Nat.le_refl _)
  by_cases h0 : L = 0
  · have : n = 0 := by have := I.cnt; omega
    subst this
    rw [if_pos h0] at hc
    subst hc
    refine ⟨rfl, rfl, rfl, fun q hq => ?_, rfl, fun q hq => absurd hq (Nat.not_lt_zero _)⟩
    obtain rfl : q = 0 := by have : q < 1 := hq; omega
    exact ⟨rfl, rfl⟩
  · rw [if_neg h0] at hc
    simp only [if_neg h0] at hG
    have hp := I.pos (by omega)
    have hn0 : ¬ n = 0 := by omega
    -- what is built from the first legs
    have step : ∀ i, i ≤ n → (∀ v, v < (gst G o i).1 → ∃ q, q < i ∧ o.ii q 2 = (v : Int)) ∧ (∀ q, q < i → o.ii q 2 < ((gst G o i).1 : Int)) ∧ (∀ v, v < (gst G o i).1 → (gst G o i).2.ii v 0 = G.ii v 0 ∧ (gst G o i).2.ii v 1 = G.ii v 1) ∧ (lst G o i).1 = i ∧ Ag i (lst G o i).2 o := by
      intro i
      induction i with
      | zero => exact fun _ => ⟨fun v hv => absurd hv (Nat.not_lt_zero _), fun q hq => absurd hq (Nat.not_lt_zero _), fun v hv => absurd hv (Nat.not_lt_zero _), rfl, fun q hq => absurd hq (Nat.not_lt_zero _)⟩
      | succ i ih =>
        intro hi
        obtain ⟨s1, s2, s3, s4, s5⟩ := ih (by omega)
        obtain ⟨a0, a1, a2⟩ := hA i (by omega)
        have k := I.ok i (by omega)
        obtain ⟨v, hv⟩ : ∃ v : Nat, o.ii i 2 = (v : Int) := ⟨(o.ii i 2).toNat, by rw [a2]; omega⟩
        have vc : v < c := by rw [hc]; rw [a2] at hv; omega
        -- no number is left out
        have cc : (gst G o i).1 ≤ c := by
          apply Decidable.byContradiction
          intro hh
          obtain ⟨q, q1, q2⟩ := s1 c (by omega)
          have := (X.leg q (by omega)).2.2.2
          omega
        have vle : v ≤ (gst G o i).1 := by
          apply Decidable.byContradiction
          intro hh
          obtain ⟨q', q1, q2⟩ := I.ord i (by omega) (gst G o i).1 (by rw [← a2, hv]; omega)
          have := s2 q' q1
          rw [(hA q' (by omega)).2.2, q2] at this
          omega
        have gxv : gx G o i = G.ii v 0 := by unfold gx; rw [hv]; rfl
        have gyv : gy G o i = G.ii v 1 := by unfold gy; rw [hv]; rfl
        have dist : ∀ q', q' < v → ¬ (G.ii q' 0 = G.ii v 0 ∧ G.ii q' 1 = G.ii v 1) := fun q' hq' hh => by
          refine S.dist q' v hq' (by omega) ?_
          rw [(hG q' (by omega)).1, (hG q' (by omega)).2, (hG v vc).1, (hG v vc).2] at hh
          exact hh
        have notM : ¬ Mrg (lst G o i) (o.ii i 0) (o.ii i 1) (o.ii i 2) := fun ⟨m0, m1, m2⟩ => by
          rw [s4] at m0 m1 m2
          obtain ⟨p, rfl⟩ : ∃ p, i = p + 1 := ⟨i - 1, by omega⟩
          rw [Nat.add_sub_cancel] at m1 m2
          refine I.adj p (by omega) ?_
          have b0 := hA p (by omega)
          rw [Ag.dp s5 (Nat.le_refl _), Ag.dp s5 (by omega), (s5 p (by omega)).1] at m2
          rw [(s5 p (by omega)).2.2] at m1
          have dd : ∀ {q}, q ≤ p + 2 → dp o q = dp (lst g e L).2 q := fun hq => Ag.dp hA (by omega)
          rw [← b0.2.2, ← a2, ← dd (show p + 1 ≤ p + 2 by omega), ← dd (show p ≤ p + 2 by omega), ← dd (Nat.le_refl _), ← a0, ← b0.1]
          exact ⟨m1, m2⟩
        have gkv : gk G o i = (v : Int) := by
          by_cases hlt : v < (gst G o i).1
          · have f : fndG (gst G o i).1 (gst G o i).2 (gx G o i) (gy G o i) = (v : Int) := fnd_at hlt ⟨by rw [(s3 v hlt).1, gxv], by rw [(s3 v hlt).2, gyv]⟩ fun q' hq' hh => by
              rw [(s3 q' (by omega)).1, (s3 q' (by omega)).2, gxv, gyv] at hh
              exact dist q' hq' hh
            rcases gk_step X.leg (show i < n by omega) with ⟨k1, _⟩ | ⟨_, k2⟩
            · rw [f] at k1; omega
            · rw [k2, f]
          · have hve : v = (gst G o i).1 := by omega
            have f : fndG (gst G o i).1 (gst G o i).2 (gx G o i) (gy G o i) = -1 := fnd_no fun q' hq' hh => by
              rw [(s3 q' (by omega)).1, (s3 q' (by omega)).2, gxv, gyv] at hh
              exact dist q' (by omega) hh
            rcases gk_step X.leg (show i < n by omega) with ⟨_, k2⟩ | ⟨k1, _⟩
            · rw [k2, hve]
            · rw [f] at k1; exact absurd (by decide) k1
        have notM' : ¬ Mrg (lst G o i) (o.ii i 0) (o.ii i 1) (gk G o i) := by rw [gkv, ← hv]; exact notM
        obtain ⟨u1, u2, u3, u4, u5⟩ := step_app notM'
        have hl1 : (lst G o (i + 1)).1 = i + 1 := by rw [lst_next, u1, s4]
        have hl2 : Ag (i + 1) (lst G o (i + 1)).2 o := fun q hq => by
          rw [lst_next]
          by_cases hqi : q = i
          · subst hqi
            rw [s4] at u3 u4 u5
            rw [u3, u4, u5, gkv, hv]; exact ⟨rfl, rfl, rfl⟩
          · rw [u2 q (by omega), u2 q (by omega), u2 q (by omega)]
            exact s5 q (by omega)
        by_cases hlt : v < (gst G o i).1
        · have f : ¬ fndG (gst G o i).1 (gst G o i).2 (gx G o i) (gy G o i) < 0 := by
            rw [fnd_at hlt ⟨by rw [(s3 v hlt).1, gxv], by rw [(s3 v hlt).2, gyv]⟩ fun q' hq' hh => by
              rw [(s3 q' (by omega)).1, (s3 q' (by omega)).2, gxv, gyv] at hh
              exact dist q' hq' hh]
            omega
          rw [gst_same f]
          refine ⟨fun w hw => ?_, fun q hq => ?_, s3, hl1, hl2⟩
          · obtain ⟨q, q1, q2⟩ := s1 w hw
            exact ⟨q, by omega, q2⟩
          · by_cases hqi : q = i
            · subst hqi; rw [hv]; omega
            · exact s2 q (by omega)
        · have hve : v = (gst G o i).1 := by omega
          have f : fndG (gst G o i).1 (gst G o i).2 (gx G o i) (gy G o i) < 0 := by
            rw [fnd_no fun q' hq' hh => by
              rw [(s3 q' (by omega)).1, (s3 q' (by omega)).2, gxv, gyv] at hh
              exact dist q' (by omega) hh]
            decide
          rw [gst_more f]
          refine ⟨fun w hw => ?_, fun q hq => ?_, fun w hw => ?_, hl1, hl2⟩
          · have hw : w < (gst G o i).1 + 1 := hw
            by_cases hwe : w = (gst G o i).1
            · exact ⟨i, by omega, by rw [hv, hve, hwe]⟩
            · obtain ⟨q, q1, q2⟩ := s1 w (by omega)
              exact ⟨q, by omega, q2⟩
          · show o.ii q 2 < (((gst G o i).1 + 1 : Nat) : Int)
            by_cases hqi : q = i
            · subst hqi; rw [hv]; omega
            · have := s2 q (by omega); omega
          · have hw : w < (gst G o i).1 + 1 := hw
            obtain ⟨p0, p1⟩ := app2 (gst G o i).2 (gst G o i).1 w hw (gx G o i) (gy G o i)
            show ((gst G o i).2.app (gst G o i).1 _).ii w 0 = _ ∧ ((gst G o i).2.app (gst G o i).1 _).ii w 1 = _
            rw [p0, p1]
            by_cases hwe : w = (gst G o i).1
            · rw [if_pos hwe, if_pos hwe, gxv, gyv, hve, hwe]; exact ⟨rfl, rfl⟩
            · rw [if_neg hwe, if_neg hwe]; exact s3 w (by omega)
    obtain ⟨s1, s2, s3, s4, s5⟩ := step n (Nat.le_refl _)
    have ce : (gst G o n).1 = c := by
      apply Nat.le_antisymm
      · apply Decidable.byContradiction
        intro hh
        obtain ⟨q, q1, q2⟩ := s1 c (by omega)
        have := (X.leg q (by omega)).2.2.2
        omega
      · apply Decidable.byContradiction
        intro hh
        obtain ⟨q, q1, q2⟩ := I.used (gst G o n).1 (by omega)
        have := s2 q (by omega)
        rw [(hA q (by omega)).2.2, q2] at this
        omega
    refine ⟨rfl, rfl, ?_, fun q hq => ?_, s4.symm, fun q hq => ?_⟩
    · show c = _; rw [if_neg hn0]; exact ce.symm
    · have hq : q < c := hq
      simp only [if_neg hn0]
      have := s3 q (by omega)
      exact ⟨this.1.symm, this.2.symm⟩
    · rw [s4] at hq
      obtain ⟨x0, x1, x2⟩ := s5 q hq
      exact ⟨x0.symm, x1.symm, x2.symm⟩
theorem nf_alike {r r' : ByteArray × Int × Nat × Dat × Nat × Dat} (h : IsNf a b g L e r) (h' : IsNf a b g L e r') : r.1 = r'.1 ∧ r.2.1 = r'.2.1 ∧ r.2.2.1 = r'.2.2.1 ∧ (∀ q, q < r.2.2.1 → r.2.2.2.1.ii q 0 = r'.2.2.2.1.ii q 0 ∧ r.2.2.2.1.ii q 1 = r'.2.2.2.1.ii q 1) ∧ r.2.2.2.2.1 = r'.2.2.2.2.1 ∧ Ag r.2.2.2.2.1 r.2.2.2.2.2 r'.2.2.2.2.2 := by
  obtain ⟨a1, a2, a3, a4, a5, a6⟩ := h
  obtain ⟨b1, b2, b3, b4, b5, b6⟩ := h'
  refine ⟨a1.trans b1.symm, a2.trans b2.symm, a3.trans b3.symm, fun q hq => ?_, a5.trans b5.symm, fun q hq => ?_⟩
  · have x := a4 q hq; have y := b4 q (by rw [b3, ← a3]; exact hq)
    exact ⟨x.1.trans y.1.symm, x.2.trans y.2.symm⟩
  · have x := a6 q (by rw [← a5]; exact hq); have y := b6 q (by rw [← a5]; exact hq)
    exact ⟨x.1.trans y.1.symm, x.2.1.trans y.2.1.symm, x.2.2.trans y.2.2.symm⟩
theorem nf_same (P : Pln a b ng g L e) (h : IsNf a b g L e (a, b, c, G, n, o)) : n42 a b ng g L e a b c G n o = true ∧ m42 a b ng g L e a b c G n o = (0, 12) := by
  have X := nf_pln P h
  obtain ⟨_, _, hc, hG, hn, hA⟩ := h
  simp only at hc hG hn hA
  have I := ni_all (g := g) P.leg L (Nat.le_refl _)
  have tot : sm o n = sm e L := by rw [Ag.sm hA (by omega), hn, I.sum]
  obtain ⟨x1, M, hM, r, hF, hr⟩ := differ_ok P X
  refine ⟨x1, ?_⟩
  rcases hF with ⟨h1, _⟩ | ⟨s1, k1, k2, k3, k4, k5⟩
  · rw [hr, h1]; rfl
  · exfalso
    rw [tot] at hM k5
    have hMe : imax (sm e L) (sm e L) = sm e L := by unfold imax; split <;> rfl
    rw [hMe] at hM
    rcases k5 with k5 | k5 | ⟨r', k, q1, q2, q3⟩
    · omega
    · omega
    · obtain ⟨q, c1, c2, c3, c4, c5, c6⟩ := I.cov r' q1.1
      have onq : On n o (s1 : Int) q := ⟨by omega, by rw [Ag.sm hA (by omega)]; have := q1.2.1; omega, by rw [Ag.sm hA (by omega)]; have := q1.2.2; omega⟩
      obtain rfl := q2.one X onq
      obtain ⟨a0, a1, a2⟩ := hA k c1
      obtain ⟨kq, g1, g2, g3, g4, _⟩ := gk_spec (g := g) P.leg q1.1
      have hL0 : ¬ L = 0 := by have := q1.1; omega
      simp only [if_neg hL0] at hG
      rw [if_neg hL0] at hc
      obtain ⟨m1, m2⟩ := gst_mono (g := g) (e := e) (show r' + 1 ≤ L from q1.1)
      have num : (o.ii k 2).toNat = kq := by rw [a2, c2, g1]; rfl
      refine q3 ⟨?_, ?_, ?_⟩
      · show gx g e r' = G.ii (o.ii k 2).toNat 0
        rw [num, (hG kq (by omega)).1, m2 kq g2, g3]
      · show gy g e r' = G.ii (o.ii k 2).toNat 1
        rw [num, (hG kq (by omega)).2, m2 kq g2, g4]
      · unfold Ln
        have d0 : dp o k = dp (lst g e L).2 k := Ag.dp hA (by omega)
        have z0 : sm o k = sm (lst g e L).2 k := Ag.sm hA (by omega)
        have d1 : dp o (k + 1) = dp (lst g e L).2 k + ((lst g e L).2.ii k 1 - dp (lst g e L).2 k) := by
          show o.ii k 1 = _; rw [a1]; omega
        have z1 : sm o (k + 1) = sm (lst g e L).2 k + (lst g e L).2.ii k 0 := by
          rw [← z0]; show sm o k + o.ii k 0 = _; rw [a0]
        have es : sm e (r' + 1) = sm e r' + e.ii r' 0 := rfl
        rw [es] at c6 ⊢
        rw [d0, d1, z0, z1, a0]
        exact ln_alike c5 c6
end
theorem normals_ok (a : ByteArray) (b : Int) (ng : Nat) (g : Dat) (L : Nat) (e : Dat) : n7 a b ng g L e = true ∧ m7 a b ng g L e = true := by
  cases hs : m18 a b ng g L e with
  | false => exact ⟨by simp only [n7, v7, n10_t, m10_t, hs, cond_true, cond_false, Bool.and_true], by simp only [m7, w7, m10_t, hs, cond_true, cond_false]⟩
  | true =>
  obtain ⟨b1, b2, b3⟩ := few_bnd hs
  obtain ⟨c1, c2⟩ := copies_ok (a := a) (b := b) (ng := ng) (g := g) (L := L) (e := e) (by omega) (by omega)
  obtain ⟨p1, p2, p3, p4, p5⟩ := plan_ok a b ng g L e (by omega) (by omega) (by omega)
  obtain ⟨o1, o2⟩ := one_plan a b ng g L e (by omega) (by omega) (by omega)
  have hdd : ∀ x : Int, decide (x = x) = true := fun x => decide_eq_true rfl
  by_cases hz : (m25 a b ng g L e).2 = 0
  · have P := p4 hz
    have q := p5 P
    rw [q] at o2
    have o2 : _ = (0 : Int) := o2
    obtain ⟨x1, x2⟩ := normal_ok P
    obtain ⟨y1, y2⟩ := refNormal_ok P
    obtain ⟨⟨xa, xb, c, G, n, o⟩, hx⟩ : ∃ r, m73 a b ng g L e = r := ⟨_, rfl⟩
    obtain ⟨⟨ya, yb, c', G', n', o'⟩, hy⟩ : ∃ r, m40 a b ng g L e = r := ⟨_, rfl⟩
    rw [hx] at x2
    rw [hy] at y2
    obtain ⟨e1, e2, e3, e4, e5, e6⟩ := nf_alike x2 y2
    simp only at e1 e2 e3 e4 e5 e6
    obtain rfl : xa = a := x2.1
    obtain rfl : xb = b := x2.2.1
    subst e1 e2 e3 e5
    have X := nf_pln P x2
    have self := nf_self P x2
    have hXL := X.legs; have hXg := X.few; have hXa := X.small
    obtain ⟨z1, z2⟩ := normal_ok X
    obtain ⟨⟨za, zb, c', G2, n', o2'⟩, hzz⟩ : ∃ r, m73 xa xb c G n o = r := ⟨_, rfl⟩
    rw [hzz] at z2
    obtain ⟨f1, f2, f3, f4, f5, f6⟩ := nf_alike self z2
    simp only at f1 f2 f3 f4 f5 f6
    subst f1 f2 f3 f5
    obtain ⟨d1, d2⟩ := copies_ok (a := xa) (b := xb) (ng := c) (g := G) (L := n) (e := o) (by omega) (by omega)
    have qx := (plan_ok xa xb c G n o (by omega) (by omega) (by omega)).2.2.2.2 X
    obtain ⟨r1, r2⟩ := one_plan xa xb c G n o (by omega) (by omega) (by omega)
    rw [qx] at r2
    have r2 : _ = (0 : Int) := r2
    obtain ⟨t1, t2⟩ := two_plans xa xb ng g L e xa xb c G n o (by omega) (by omega) (by omega) (by omega) (by omega) (by omega)
    rw [q, qx] at t2
    have t2 : _ = (0 : Int) := t2
    obtain ⟨s1, s2⟩ := plans_same (a := xa) (b := xb) (by omega) (by omega) e4 e6
    obtain ⟨s3, s4⟩ := plans_same (a := xa) (b := xb) (by omega) (by omega) f4 f6
    obtain ⟨g1, g2⟩ := gases_same (n := c) (by omega) f4
    obtain ⟨l1, l2⟩ := legs_same (n := n) (by omega) f6
    obtain ⟨w1, w2⟩ := nf_same P x2
    obtain ⟨v1, v2⟩ := seconds_ok P
    have m39p : m39 xa xb ng g L e = (xa, xb, c, G, n, o, 0) := by simp only [m39, o2, hx, decide_true, cond_true, cond_false]
    have n39p : n39 xa xb ng g L e = true := by simp only [n39, o1, o2, x1, decide_true, cond_true, cond_false, Bool.and_self]
    have m39x : m39 xa xb c G n o = (xa, xb, c, G2, n, o2', 0) := by simp only [m39, r2, hzz, decide_true, cond_true, cond_false]
    have n39x : n39 xa xb c G n o = true := by simp only [n39, r1, r2, z1, decide_true, cond_true, cond_false, Bool.and_self]
    have m41e : m41 xa xb ng g L e xa xb c G n o = (true, 0) := by simp only [m41, t2, hx, hzz, g2, l2, decide_true, cond_true, cond_false]
    have n41e : n41 xa xb ng g L e xa xb c G n o = true := by simp only [n41, t1, t2, hx, hzz, x1, z1, g1, g2, l1, decide_true, cond_true, cond_false, Bool.and_self, Bool.cond_self]
    by_cases h5 : (5000 : Int) < m26 xa xb ng g L e
    · exact ⟨by simp only [n7, v7, t7_0, t7_1, t7_2, t7_3, t7_4, t7_5, t7_6, t7_7, t7_8, t7_9, t7_10, t7_11, t7_12, t7_13, t7_14, t7_15, t7_16, t7_17, t7_18, t7_19, t7_20, t7_21, t7_22, t7_23, t7_24, t7_25, t7_26, t7_27, t7_28, t7_29, t7_30, t7_31, t7_32, t7_33, t7_34, n10_t, m10_t, hs, c1, c2, p2, q, m39p, n39p, y1, hy, s1, s2, d1, d2, m39x, n39x, s3, s4, m41e, n41e, v1, decide_eq_true h5, decide_true, cond_true, cond_false, Bool.and_self, Bool.cond_self], by simp only [m7, w7, t7_0, t7_1, t7_2, t7_3, t7_4, t7_5, t7_6, t7_7, t7_8, t7_9, t7_10, t7_11, t7_12, t7_13, t7_14, t7_15, t7_16, t7_17, t7_18, t7_19, t7_20, t7_21, t7_22, t7_23, t7_24, t7_25, t7_26, t7_27, t7_28, t7_29, t7_30, t7_31, t7_32, t7_33, t7_34, m10_t, hs, c2, q, m39p, hy, s2, d2, m39x, s4, m41e, decide_eq_true h5, decide_true, cond_true, cond_false, Bool.cond_self]⟩
    · exact ⟨by simp only [n7, v7, t7_0, t7_1, t7_2, t7_3, t7_4, t7_5, t7_6, t7_7, t7_8, t7_9, t7_10, t7_11, t7_12, t7_13, t7_14, t7_15, t7_16, t7_17, t7_18, t7_19, t7_20, t7_21, t7_22, t7_23, t7_24, t7_25, t7_26, t7_27, t7_28, t7_29, t7_30, t7_31, t7_32, t7_33, t7_34, n10_t, m10_t, hs, c1, c2, p2, q, m39p, n39p, y1, hy, s1, s2, d1, d2, m39x, n39x, s3, s4, m41e, n41e, v1, w1, decide_eq_false h5, decide_true, cond_true, cond_false, Bool.and_self, Bool.cond_self], by simp only [m7, w7, t7_0, t7_1, t7_2, t7_3, t7_4, t7_5, t7_6, t7_7, t7_8, t7_9, t7_10, t7_11, t7_12, t7_13, t7_14, t7_15, t7_16, t7_17, t7_18, t7_19, t7_20, t7_21, t7_22, t7_23, t7_24, t7_25, t7_26, t7_27, t7_28, t7_29, t7_30, t7_31, t7_32, t7_33, t7_34, m10_t, hs, c2, q, m39p, hy, s2, d2, m39x, s4, m41e, w2, decide_eq_false h5, decide_true, cond_true, cond_false, Bool.cond_self]⟩
  · have hz' : decide ((m25 a b ng g L e).2 = 0) = false := decide_eq_false hz
    have m39p : m39 a b ng g L e = (({ data := #[] } : ByteArray), 0, 0, noDat, 0, noDat, (m25 a b ng g L e).2) := by simp only [m39, o2, hz', cond_true, cond_false]
    have n39p : n39 a b ng g L e = true := by simp only [n39, o1, o2, hz', cond_true, cond_false, Bool.and_self]
    have w00 : IntKind.i64.wrap (((0 : Nat) : Int) + ((0 : Nat) : Int)) = 0 := wr (by decide) (by decide)
    have n0 : m37 (({ data := #[] } : ByteArray)) 0 0 noDat 0 noDat = true := by simp only [m37, w00, decide_true, cond_true]
    have z7 : decide (t7_7 a b ng g L e = 0) = false := hz'
    have e8 : t7_8 a b ng g L e = t7_7 a b ng g L e := by simp only [t7_8, t7_7, t7_1, t7_2, t7_3, t7_4, t7_5, t7_6, c2, m39p]
    have z8 : decide (t7_8 a b ng g L e = t7_7 a b ng g L e) = true := decide_eq_true e8
    exact ⟨by simp only [n7, v7, t7_0, t7_1, t7_2, t7_3, t7_4, t7_5, t7_6, n10_t, m10_t, hs, c1, c2, p2, n39p, z7, cond_true, cond_false, Bool.and_self, Bool.true_and, Bool.and_true, Bool.cond_self], by simp only [m7, w7, t7_1, t7_2, t7_3, t7_4, t7_5, t7_6, z7, z8, t7_9, t7_10, t7_11, t7_12, t7_13, t7_14, m10_t, hs, c2, m39p, n0, cond_true, cond_false]⟩
end Go.Proofs.YtchhhoamnagbfaaDoor

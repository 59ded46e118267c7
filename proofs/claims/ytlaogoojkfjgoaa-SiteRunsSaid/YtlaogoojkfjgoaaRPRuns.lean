/-
  The plain law of 'SiteRuns': the law's model is true, and its need. Conditions: none.
-/
import Derived.Test.YtlaogoojkfjgoaaR1
import Derived.Test.YtlaogoojkfjgoaaR2
import Derived.Test.YtlaogoojkfjgoaaR3
import Derived.Test.YtlaogoojkfjgoaaR4
import Derived.Test.YtlaogoojkfjgoaaRFRuns
import Derived.Test.YtlaogoojkfjgoaaRPLoop
import Derived.Test.YtlaogoojkfjgoaaRPAng
import Derived.Test.YtlaogoojkfjgoaaRPChart
import Derived.Test.YtlaogoojkfjgoaaRPFlat
import Derived.Test.YtlaogoojkfjgoaaRPCheckW
import Derived.Test.YtlaogoojkfjgoaaRE17
namespace Go.Proofs.Ytlaogoojkfjgoaa
open Go Go.Sy
set_option linter.unusedVariables false
set_option linter.unusedSimpArgs false
set_option maxRecDepth 100000
attribute [local simp] brk
theorem e17r : m17 = true := rfl
theorem l11_run {nw : Nat} {dw : Dat} (hn : nw ≤ 1000) (b0 : Nat) (b1 : Dat) (b2 : Nat) (b3 : Dat) (c0 : Int) (c1 : Nat) (c2 : Dat) (c3 : Nat) (c4 : Dat) : ∀ (k i f : Nat) (D : Dat), i + k = nw → k < f → Agree i D dw →
    (∃ X Y, l11_0 nw dw b0 b1 b2 b3 c0 c1 c2 c3 c4 f i (i : Int) D = some (true, (true, X), Y)) ∨ ((∀ j, i ≤ j → j < nw → dw.sn j 0 ≤ 5) ∧ ∃ D', Agree nw D' dw ∧ l11_0 nw dw b0 b1 b2 b3 c0 c1 c2 c3 c4 f i (i : Int) D = some (false, default, (nw, nw, D')))
  | 0, i, f, D, hi, hf, h => by
    obtain ⟨f, rfl⟩ : ∃ g, f = g + 1 := ⟨f - 1, by omega⟩
    obtain rfl : i = nw := by omega
    exact .inr ⟨fun j a b => by omega, D, h, by simp only [l11_0, cdn, cond_false]⟩
  | k + 1, i, f, D, hi, hf, h => by
    obtain ⟨f, rfl⟩ : ∃ g, f = g + 1 := ⟨f - 1, by omega⟩
    have hlt : i < nw := by omega
    by_cases h5 : 5 < dw.sn i 0
    · have z : decide ((5 : Int) < (dw.sn i 0 : Int)) = true := decide_eq_true (by omega)
      exact .inl ⟨(i, i, D), default, by simp only [l11_0, cdl hlt, cdd hlt, cond_true, Int.toNat_natCast, z]⟩
    · have z : decide ((5 : Int) < (dw.sn i 0 : Int)) = false := decide_eq_false (by omega)
      have e42 : n42 (dw.sn i 0) (dw.sub i 0) = true := by
        simp only [n42, Nat.zero_add, decide_eq_true (show dw.sn i 0 ≤ 1073741824 by omega), decide_eq_true (Nat.le_refl (dw.sn i 0))]; rfl
      have step : l11_0 nw dw b0 b1 b2 b3 c0 c1 c2 c3 c4 (f + 1) i (i : Int) D = l11_0 nw dw b0 b1 b2 b3 c0 c1 c2 c3 c4 f (i + 1) ((i + 1 : Nat) : Int) (D.app i (datS [SV.ro [Kd.int IntKind.i64, Kd.int IntKind.i64] (dw.sn i 0) (dw.sub i 0)] 1)) := by
        simp only [l11_0, cdl hlt, cdd hlt, cond_true, cond_false, Int.toNat_natCast, z, e42, m42_eq, decide_eq_true (show i + 1 ≤ 1073741824 by omega), wrS hlt (by omega)]
      rw [step]
      rcases l11_run hn b0 b1 b2 b3 c0 c1 c2 c3 c4 k (i + 1) f _ (by omega) (by omega) (agree_app h [Kd.int IntKind.i64, Kd.int IntKind.i64]) with h | ⟨h1, h2⟩
      · exact .inl h
      · refine .inr ⟨fun j a b => ?_, h2⟩
        by_cases hj : j = i
        · subst hj; omega
        · exact h1 j (by omega) b
section
variable {n n' : Nat} {d d' D : Dat} {bg : Int} {n1 : Nat} {p s : Dat}
theorem runs_joint (C : Cht n n' d') (hA : Agree n' D d') (h14 : n1 ≤ 14) (b1 : Int) : ∀ (k i f f' : Nat) (now : Int) (X : Dat), i + k = n1 → k < f → k < f' → (∀ j, j < i → 0 ≤ p.ii j 0 ∧ p.ii j 0 < (n : Int)) → 0 ≤ now → now ≤ 1000000 + 20000 * (i : Int) →
    (∃ e, e ≠ 0 ∧ (∃ Y Z, l111_1 n1 p (n1 : Int) n d n' D b1 p n1 s f i now (i : Int) X = some (true, (e, Y), Z)) ∧ l53_0 n d n' d' b1 n1 p n1 s f' (i : Int) = some (true, e, default)) ∨
    (l53_0 n d n' d' b1 n1 p n1 s f' (i : Int) = some (false, default, ()) ∧ ∃ X', l111_1 n1 p (n1 : Int) n d n' D b1 p n1 s f i now (i : Int) X = some (false, default, (n1, n1, X')) ∧ ∀ g, k < g → l54_0 n d n' d' b1 n1 p n1 s g i now (i : Int) X = some (n1, n1, X'))
  | 0, i, f, f', now, X, hi, hf, hf', hp, h0, h1 => by
    obtain ⟨f, rfl⟩ : ∃ g, f = g + 1 := ⟨f - 1, by omega⟩
    obtain ⟨f', rfl⟩ : ∃ g, f' = g + 1 := ⟨f' - 1, by omega⟩
    obtain rfl : i = n1 := by omega
    refine .inr ⟨by simp only [l53_0, cdn, cond_false], X, by simp only [l111_1, cdn, cond_false], fun g hg => ?_⟩
    obtain ⟨g, rfl⟩ : ∃ q, g = q + 1 := ⟨g - 1, by omega⟩
    simp only [l54_0, cdn, cond_false]
  | k + 1, i, f, f', now, X, hi, hf, hf', hp, h0, h1 => by
    obtain ⟨f, rfl⟩ : ∃ g, f = g + 1 := ⟨f - 1, by omega⟩
    obtain ⟨f', rfl⟩ : ∃ g, f' = g + 1 := ⟨f' - 1, by omega⟩
    have hlt : i < n1 := by omega
    have hn := C.few
    have hrw := C.rows
    have wn : IntKind.i64.wrap ((n : Int) - 1) = (n : Int) - 1 := wr (by omega) (by omega)
    by_cases hpl : 0 ≤ p.ii i 0 ∧ p.ii i 0 ≤ (n : Int) - 1
    · have z1 : m29 (p.ii i 0) 0 ((n : Int) - 1) = true := m29_iff.2 hpl
      by_cases hst : 0 ≤ s.ii i 0 ∧ s.ii i 0 ≤ 10000
      · have z2 : m29 (s.ii i 0) 0 10000 = true := m29_iff.2 hst
        have hp' : ∀ j, j < i + 1 → 0 ≤ p.ii j 0 ∧ p.ii j 0 < (n : Int) := fun j hj => by
          by_cases h : j < i
          · exact hp j h
          · obtain rfl : j = i := by omega
            omega
        have al : decide (i + 1 ≤ 1073741824) = true := decide_eq_true (by omega)
        by_cases hi0 : 0 < i
        · have w : IntKind.i64.wrap ((i : Int) - 1) = (i : Int) - 1 := wr (by omega) (by omega)
          have t : ((i : Int) - 1).toNat = i - 1 := by omega
          have zi : decide ((0 : Int) < (i : Int)) = true := decide_eq_true (by omega)
          have zp : decide (0 ≤ (i : Int) - 1 ∧ (i : Int) - 1 < (n1 : Int)) = true := decide_eq_true ⟨by omega, by omega⟩
          obtain ⟨q0, q1⟩ := hp (i - 1) (by omega)
          have a1 : (p.ii (i - 1) 0).toNat < n := by omega
          have a2 : (p.ii i 0).toNat < n := by omega
          have zq : decide ((0 : Int) ≤ p.ii (i - 1) 0 ∧ p.ii (i - 1) 0 < (n' : Int)) = true := decide_eq_true ⟨by omega, by omega⟩
          have sn1 : d'.sn (p.ii (i - 1) 0).toNat 0 = n := C.row _ a1
          have sn2 : D.sn (p.ii (i - 1) 0).toNat 0 = n := by rw [(hA _ (by omega)).1]; exact sn1
          have zr : decide ((0 : Int) ≤ p.ii i 0 ∧ p.ii i 0 < (n : Int)) = true := decide_eq_true ⟨by omega, by omega⟩
          have m1 : (d'.sub (p.ii (i - 1) 0).toNat 0).ii (p.ii i 0).toNat 0 = mn d' (p.ii (i - 1) 0).toNat (p.ii i 0).toNat := rfl
          have m2 : (D.sub (p.ii (i - 1) 0).toNat 0).ii (p.ii i 0).toNat 0 = mn d' (p.ii (i - 1) 0).toNat (p.ii i 0).toNat := by rw [(hA _ (by omega)).2]; rfl
          have lo := C.lo _ _ a1 a2
          have hi' := C.hi _ _ a1 a2
          obtain ⟨m, hm⟩ : ∃ m, m = mn d' (p.ii (i - 1) 0).toNat (p.ii i 0).toNat := ⟨_, rfl⟩
          rw [← hm] at m1 m2 lo hi'
          by_cases hneg : m < 0
          · have zn : decide (m < 0) = true := decide_eq_true hneg
            refine .inl ⟨14, by decide, ⟨(i, i, X), default, ?_⟩, ?_⟩
            · simp only [l111_1, m85, m96_m29, cdl hlt, cdd hlt, Int.toNat_natCast, wn, z1, z2, w, t, zi, zp, zq, zr, sn2, m2, zn, cond_true, cond_false]
            · simp only [l53_0, cdl hlt, cdd hlt, Int.toNat_natCast, wn, z1, z2, w, t, zi, zp, zq, zr, sn1, m1, zn, cond_true, cond_false]
          · have zn : decide (m < 0) = false := decide_eq_false hneg
            have w6 : IntKind.i64.wrap (now + m) = now + m := wr (by omega) (by omega)
            have w7 : IntKind.i64.wrap (now + m + s.ii i 0) = now + m + s.ii i 0 := wr (by omega) (by omega)
            have e53 : l53_0 n d n' d' b1 n1 p n1 s (f' + 1) (i : Int) = l53_0 n d n' d' b1 n1 p n1 s f' ((i + 1 : Nat) : Int) := by
              simp only [l53_0, cdl hlt, cdd hlt, Int.toNat_natCast, wn, z1, z2, w, t, zi, zp, zq, zr, sn1, m1, zn, wrS hlt (by omega), cond_true, cond_false]
            have e111 : l111_1 n1 p (n1 : Int) n d n' D b1 p n1 s (f + 1) i now (i : Int) X = l111_1 n1 p (n1 : Int) n d n' D b1 p n1 s f (i + 1) (now + m + s.ii i 0) ((i + 1 : Nat) : Int) (X.app i (datS [SV.int IntKind.i64 (now + m), SV.int IntKind.i64 (now + m + s.ii i 0)] 2)) := by
              simp only [l111_1, m85, m96_m29, cdl hlt, cdd hlt, Int.toNat_natCast, wn, z1, z2, w, t, zi, zp, zq, zr, sn2, m2, zn, al, w6, w7, wrS hlt (by omega), cond_true, cond_false]
            have e54 : ∀ g, l54_0 n d n' d' b1 n1 p n1 s (g + 1) i now (i : Int) X = l54_0 n d n' d' b1 n1 p n1 s g (i + 1) (now + m + s.ii i 0) ((i + 1 : Nat) : Int) (X.app i (datS [SV.int IntKind.i64 (now + m), SV.int IntKind.i64 (now + m + s.ii i 0)] 2)) := fun g => by
              simp only [l54_0, cdl hlt, cdd hlt, Int.toNat_natCast, w, t, zi, zp, zq, zr, sn1, m1, al, w6, w7, wrS hlt (by omega), cond_true, cond_false]
            rw [e53, e111]
            rcases runs_joint C hA h14 b1 k (i + 1) f f' (now + m + s.ii i 0) _ (by omega) (by omega) (by omega) hp' (by omega) (by omega) with h | ⟨h1, X', h2, h3⟩
            · exact .inl h
            · refine .inr ⟨h1, X', h2, fun g hg => ?_⟩
              obtain ⟨g, rfl⟩ : ∃ q, g = q + 1 := ⟨g - 1, by omega⟩
              rw [e54]; exact h3 g (by omega)
        · have zi : decide ((0 : Int) < (i : Int)) = false := decide_eq_false (by omega)
          have w7 : IntKind.i64.wrap (now + s.ii i 0) = now + s.ii i 0 := wr (by omega) (by omega)
          have e53 : l53_0 n d n' d' b1 n1 p n1 s (f' + 1) (i : Int) = l53_0 n d n' d' b1 n1 p n1 s f' ((i + 1 : Nat) : Int) := by
            simp only [l53_0, cdl hlt, cdd hlt, Int.toNat_natCast, wn, z1, z2, zi, wrS hlt (by omega), cond_true, cond_false]
          have e111 : l111_1 n1 p (n1 : Int) n d n' D b1 p n1 s (f + 1) i now (i : Int) X = l111_1 n1 p (n1 : Int) n d n' D b1 p n1 s f (i + 1) (now + s.ii i 0) ((i + 1 : Nat) : Int) (X.app i (datS [SV.int IntKind.i64 now, SV.int IntKind.i64 (now + s.ii i 0)] 2)) := by
            simp only [l111_1, m85, m96_m29, cdl hlt, cdd hlt, Int.toNat_natCast, wn, z1, z2, zi, al, w7, wrS hlt (by omega), cond_true, cond_false]
          have e54 : ∀ g, l54_0 n d n' d' b1 n1 p n1 s (g + 1) i now (i : Int) X = l54_0 n d n' d' b1 n1 p n1 s g (i + 1) (now + s.ii i 0) ((i + 1 : Nat) : Int) (X.app i (datS [SV.int IntKind.i64 now, SV.int IntKind.i64 (now + s.ii i 0)] 2)) := fun g => by
            simp only [l54_0, cdl hlt, cdd hlt, Int.toNat_natCast, zi, al, w7, wrS hlt (by omega), cond_true, cond_false]
          rw [e53, e111]
          rcases runs_joint C hA h14 b1 k (i + 1) f f' (now + s.ii i 0) _ (by omega) (by omega) (by omega) hp' (by omega) (by omega) with h | ⟨h1, X', h2, h3⟩
          · exact .inl h
          · refine .inr ⟨h1, X', h2, fun g hg => ?_⟩
            obtain ⟨g, rfl⟩ : ∃ q, g = q + 1 := ⟨g - 1, by omega⟩
            rw [e54]; exact h3 g (by omega)
      · have z2 : m29 (s.ii i 0) 0 10000 = false := m29_f hst
        refine .inl ⟨2, by decide, ⟨(i, i, X), default, ?_⟩, ?_⟩
        · simp only [l111_1, m85, m96_m29, cdl hlt, cdd hlt, Int.toNat_natCast, wn, z1, z2, cond_true, cond_false]
        · simp only [l53_0, cdl hlt, cdd hlt, Int.toNat_natCast, wn, z1, z2, cond_true, cond_false]
    · have z1 : m29 (p.ii i 0) 0 ((n : Int) - 1) = false := m29_f hpl
      refine .inl ⟨6, by decide, ⟨(i, i, X), default, ?_⟩, ?_⟩
      · simp only [l111_1, m85, m96_m29, cdl hlt, cdd hlt, Int.toNat_natCast, wn, z1, cond_true, cond_false]
      · simp only [l53_0, cdl hlt, cdd hlt, Int.toNat_natCast, wn, z1, cond_true, cond_false]
end
theorem contains_eq {k : Nat} {w : Dat} (hk : k ≤ 9223372036854775807) (a b : Int) : n112c113 k w (datS [SV.int IntKind.i64 a, SV.int IntKind.i64 b] 1) = true ∧ (m112c113 k w (datS [SV.int IntKind.i64 a, SV.int IntKind.i64 b] 1) = true ↔ ∃ q, q < k ∧ w.ii q 0 ≤ a ∧ b ≤ w.ii q 1) := by
  have r : o140c113_0 k w (datS [SV.int IntKind.i64 a, SV.int IntKind.i64 b] 1) (k : Int) 0 = some (first (fun i => cond (bif decide (w.ii i 0 ≤ a) then decide (b ≤ w.ii i 1) else false) (some (true, (i : Int), default)) none) (false, default, ()) k 0) := by
    refine loop_first (l := l140c113_0 k w (datS [SV.int IntKind.i64 a, SV.int IntKind.i64 b] 1) (k : Int)) hk (fun f i hi => ?_) (fun f => by simp only [l140c113_0, cdn]; rfl) k 0 _ (by omega) (by omega)
    have x0 : (datS [SV.int IntKind.i64 a, SV.int IntKind.i64 b] 1).ii 0 0 = a := rfl
    have x1 : (datS [SV.int IntKind.i64 a, SV.int IntKind.i64 b] 1).ii 1 0 = b := rfl
    simp only [l140c113_0, cdl hi, cdd hi, cond_true, Int.toNat_natCast, n113, m113, x0, x1]
    cases decide (w.ii i 0 ≤ a) <;> cases decide (b ≤ w.ii i 1) <;> simp
  constructor
  · simp only [n112c113, n140c113, r]; rfl
  · simp only [m112c113, m140c113, r, Option.getD_some]
    rcases first_cases (g := fun i => cond (bif decide (w.ii i 0 ≤ a) then decide (b ≤ w.ii i 1) else false) (some (true, (i : Int), (default : Unit))) none) (e := (false, default, ())) k 0 with ⟨j, c, _, h2, h3, _, h5⟩ | ⟨h1, h2⟩
    · rw [h5]
      by_cases x : w.ii j 0 ≤ a
      · by_cases y : b ≤ w.ii j 1
        · simp only [decide_eq_true x, decide_eq_true y, cond_true] at h3
          cases h3
          simp only [cond_true]
          exact ⟨fun _ => ⟨j, by omega, x, y⟩, fun _ => decide_eq_true (by omega)⟩
        · simp only [decide_eq_true x, decide_eq_false y, cond_true, cond_false] at h3; cases h3
      · simp only [decide_eq_false x, cond_false] at h3; cases h3
    · rw [h2]
      simp only [cond_false]
      refine ⟨fun h => by simp at h, fun ⟨q, hq, x, y⟩ => ?_⟩
      have := h1 q (Nat.zero_le _) (by omega)
      simp only [decide_eq_true x, decide_eq_true y, cond_true] at this
      cases this
theorem l55_in {nw : Nat} {dw : Dat} {n1 : Nat} {X : Dat} {i : Nat} (hw : i < nw) (hx : i < n1) (h5 : dw.sn i 0 ≤ 5) (b0 : Nat) (b1 : Dat) (b2 : Nat) (b3 : Dat) (c0 : Int) (c1 : Nat) (c2 : Dat) (c3 : Nat) (c4 : Dat) : ∀ (k j f : Nat) (t : Bool), j + k = dw.sn i 0 → k < f →
    ∃ r, l55_2 nw dw n1 X (i : Int) b0 b1 b2 b3 c0 c1 c2 c3 c4 f t (j : Int) = some r ∧ (r = true ↔ t = true ∨ ∃ q, j ≤ q ∧ q < dw.sn i 0 ∧ (dw.sub i 0).ii q 0 ≤ X.ii i 0 ∧ X.ii i 1 ≤ (dw.sub i 0).ii q 1)
  | 0, j, f, t, hj, hf => by
    obtain ⟨f, rfl⟩ : ∃ g, f = g + 1 := ⟨f - 1, by omega⟩
    obtain rfl : j = dw.sn i 0 := by omega
    refine ⟨t, by simp only [l55_2, cdd hw, Int.toNat_natCast, cdn, cond_true, cond_false], ⟨.inl, fun h => ?_⟩⟩
    rcases h with h | ⟨q, a, b, _⟩
    · exact h
    · omega
  | k + 1, j, f, t, hj, hf => by
    obtain ⟨f, rfl⟩ : ∃ g, f = g + 1 := ⟨f - 1, by omega⟩
    have hlt : j < dw.sn i 0 := by omega
    obtain ⟨r, h1, h2⟩ := l55_in (X := X) hw hx h5 b0 b1 b2 b3 c0 c1 c2 c3 c4 k (j + 1) f (bif t then true else (bif decide ((dw.sub i 0).ii j 0 ≤ X.ii i 0) then decide (X.ii i 1 ≤ (dw.sub i 0).ii j 1) else false)) (by omega) (by omega)
    refine ⟨r, ?_, ?_⟩
    · rw [← h1]
      cases t <;> cases hc : decide ((dw.sub i 0).ii j 0 ≤ X.ii i 0) <;> simp only [l55_2, cdd hw, cdd hx, cdl hlt, cdd hlt, Int.toNat_natCast, wrS hlt (by omega), hc, cond_true, cond_false]
    · rw [h2]
      constructor
      · rintro (h | ⟨q, a, b, c⟩)
        · cases t with
          | true => exact .inl rfl
          | false =>
            simp only [cond_false] at h
            by_cases x : (dw.sub i 0).ii j 0 ≤ X.ii i 0
            · rw [decide_eq_true x, cond_true] at h
              exact .inr ⟨j, Nat.le_refl _, hlt, x, of_decide_eq_true h⟩
            · rw [decide_eq_false x, cond_false] at h; cases h
        · exact .inr ⟨q, by omega, b, c⟩
      · rintro (h | ⟨q, a, b, c, e⟩)
        · subst h; exact .inl rfl
        · by_cases hq : q = j
          · subst hq
            left
            rw [decide_eq_true c, decide_eq_true e]
            cases t <;> rfl
          · exact .inr ⟨q, by omega, b, c, e⟩
theorem fits_eq {nw : Nat} {dw W : Dat} {n1 : Nat} {X : Dat} (hA : Agree nw W dw) (hnw : nw = n1) (h14 : n1 ≤ 14) (h5 : ∀ i, i < nw → dw.sn i 0 ≤ 5) (b0 : Nat) (b1 : Dat) (b2 : Nat) (b3 : Dat) (c0 : Int) (c1 : Nat) (c2 : Dat) (c3 : Nat) (c4 : Dat) (b0' : Nat) (b1' : Dat) (b2' : Nat) (b3' : Dat) (c0' : Int) (c1' : Nat) (c2' : Dat) (c3' : Nat) (c4' : Dat) :
    ∃ r, o52_1 nw W n1 X X (n1 : Int) b0 b1 b2 b3 c0 c1 c2 c3 c4 0 = some r ∧ o55_0 nw dw n1 X b0' b1' b2' b3' c0' c1' c2' c3' c4' 0 = some r := by
  subst hnw
  let G : Nat → Option (Bool × (Int × Int) × Unit) := fun i => cond (bif decide (m44 (dw.sn i 0) (dw.sub i 0) = 0) then false else true) (some (true, ((i : Int), m44 (dw.sn i 0) (dw.sub i 0)), default)) (cond (bif m112c113 (dw.sn i 0) (dw.sub i 0) (datS [SV.int IntKind.i64 (X.ii i 0), SV.int IntKind.i64 (X.ii i 1)] 1) then false else true) (some (true, ((i : Int), 13), default)) none)
  refine ⟨first G (false, default, ()) nw 0, ?_, ?_⟩
  · refine loop_first (l := l52_1 nw W nw X X (nw : Int) b0 b1 b2 b3 c0 c1 c2 c3 c4) (show nw ≤ 9223372036854775807 by omega) (fun f i hi => ?_) (fun f => by simp only [l52_1, cdn]; rfl) nw 0 _ (by omega) (by omega)
    obtain ⟨a1, a2⟩ := hA i hi
    have hk := h5 i hi
    obtain ⟨w1, w2, w3, _⟩ := windows_cases (n := dw.sn i 0) (d := dw.sub i 0) (by omega)
    obtain ⟨v1, _⟩ := contains_eq (k := dw.sn i 0) (w := dw.sub i 0) (by omega) (X.ii i 0) (X.ii i 1)
    simp only [l52_1, cdl hi, cdd hi, cond_true, Int.toNat_natCast, a1, a2, w2, w3, v1]
    show _ = brk (G i) _
    simp only [G]
    cases decide (m44 (dw.sn i 0) (dw.sub i 0) = 0) <;> cases m112c113 (dw.sn i 0) (dw.sub i 0) (datS [SV.int IntKind.i64 (X.ii i 0), SV.int IntKind.i64 (X.ii i 1)] 1) <;> simp
  · refine loop_first (l := l55_0 nw dw nw X b0' b1' b2' b3' c0' c1' c2' c3' c4') (show nw ≤ 9223372036854775807 by omega) (fun f i hi => ?_) (fun f => by simp only [l55_0, cdn]; rfl) nw 0 _ (by omega) (by omega)
    have hk := h5 i hi
    obtain ⟨w1, w2, w3, _⟩ := windows_cases (n := dw.sn i 0) (d := dw.sub i 0) (by omega)
    obtain ⟨v1, v2⟩ := contains_eq (k := dw.sn i 0) (w := dw.sub i 0) (by omega) (X.ii i 0) (X.ii i 1)
    obtain ⟨r, r1, r2⟩ := l55_in (X := X) hi hi hk b0' b1' b2' b3' c0' c1' c2' c3' c4' (dw.sn i 0) 0 (nw + nw + (i : Int).toNat + (0 : Int).toNat + b0' + b2' + c0'.toNat + c1' + c3' + 8) false (by omega) (by omega)
    have e : o55_2 nw dw nw X (i : Int) b0' b1' b2' b3' c0' c1' c2' c3' c4' false 0 = some r := r1
    have er : r = m112c113 (dw.sn i 0) (dw.sub i 0) (datS [SV.int IntKind.i64 (X.ii i 0), SV.int IntKind.i64 (X.ii i 1)] 1) := by
      rw [Bool.eq_iff_iff, r2, v2]
      constructor
      · rintro (h | ⟨q, _, h⟩)
        · cases h
        · exact ⟨q, h⟩
      · rintro ⟨q, h⟩
        exact .inr ⟨q, Nat.zero_le _, h⟩
    simp only [l55_0, cdl hi, cdd hi, cond_true, Int.toNat_natCast, w1, e, er, Option.isSome_some, Option.getD_some]
    show _ = brk (G i) _
    simp only [G]
    cases decide (m44 (dw.sn i 0) (dw.sub i 0) = 0) <;> cases m112c113 (dw.sn i 0) (dw.sub i 0) (datS [SV.int IntKind.i64 (X.ii i 0), SV.int IntKind.i64 (X.ii i 1)] 1) <;> simp
theorem l11_same {n1 : Nat} {X : Dat} (h14 : n1 ≤ 14) (a0 : Nat) (a1 : Dat) (t12 t13 : Int) (b0 : Nat) (b1 : Dat) (b2 : Nat) (b3 : Dat) (c0 : Int) (c1 : Nat) (c2 : Dat) (c3 : Nat) (c4 : Dat) (e0 : Nat) (e1 : Dat) (f0 : Int) (f1 : Nat) (f2 : Dat) (f3 : Nat) (f4 : Dat) :
    o11_2 a0 a1 n1 X t12 t13 n1 X b0 b1 b2 b3 c0 c1 c2 c3 c4 e0 e1 f0 f1 f2 f3 f4 0 = some (false, default, ()) := by
  have r : o11_2 a0 a1 n1 X t12 t13 n1 X b0 b1 b2 b3 c0 c1 c2 c3 c4 e0 e1 f0 f1 f2 f3 f4 0 = some (first (fun _ => none) (false, default, ()) n1 0) := by
    refine loop_first (l := l11_2 a0 a1 n1 X t12 t13 n1 X b0 b1 b2 b3 c0 c1 c2 c3 c4 e0 e1 f0 f1 f2 f3 f4) (show n1 ≤ 9223372036854775807 by omega) (fun f i hi => ?_) (fun f => by simp only [l11_2, cdn]; rfl) n1 0 _ (by omega) (by
      refine Nat.lt_of_lt_of_le (show n1 < n1 + 8 by omega) (Nat.add_le_add_right ?_ 8)
      repeat (first | exact Nat.le_add_left _ _ | refine Nat.le_trans ?_ (Nat.le_add_right _ _)))
    simp only [l11_2, cdl hi, cdd hi, cond_true, cond_false, Int.toNat_natCast, decide_true, brk]
  rw [first_none (fun _ _ _ => rfl)] at r
  exact r
/-- What both texts' times come to, on a right chart. -/
structure Tms (n : Nat) (d : Dat) (n' : Nat) (d' D : Dat) (bg : Int) (n1 : Nat) (p : Dat) (n2 : Nat) (s : Dat) : Prop where
  n53 : n53 n d n' d' bg n1 p n2 s = true
  n111 : n111 n d n' D bg n1 p n2 s = true
  ways : (∃ e, e ≠ 0 ∧ m53 n d n' d' bg n1 p n2 s = e ∧ m111 n d n' D bg n1 p n2 s = (0, noDat, e)) ∨
    (0 < n1 ∧ n1 ≤ 12 ∧ m53 n d n' d' bg n1 p n2 s = 0 ∧ ∃ X, m111 n d n' D bg n1 p n2 s = (n1, X, 0) ∧ n54 n d n' d' bg n1 p n2 s = true ∧ m54 n d n' d' bg n1 p n2 s = (n1, X))
theorem times_ok {n n' : Nat} {d d' D : Dat} {bg : Int} {n1 n2 : Nat} {p s : Dat} (C : Cht n n' d') (hA : Agree n' D d') (g : n28 n d n' D = true) (c : m28 n d n' D = 0) (h1 : n1 ≤ 14) (h2 : n2 ≤ 14) : Tms n d n' d' D bg n1 p n2 s := by
  by_cases z0 : n1 = 0
  · subst z0
    have q : decide (((0 : Nat) : Int) = 0) = true := rfl
    exact ⟨by simp only [n53, q, decide_true, cond_true], by simp only [n111, g, c, q, decide_true, cond_true, cond_false]; rfl, .inl ⟨10, by decide, by simp only [m53, q, decide_true, cond_true], by simp only [m111, c, q, decide_true, cond_true, cond_false]⟩⟩
  · have q0 : decide ((n1 : Int) = 0) = false := decide_eq_false (by omega)
    by_cases z1 : n2 = n1
    · subst z1
      have q1 : decide ((n2 : Int) = (n2 : Int)) = true := decide_eq_true rfl
      by_cases z2 : 12 < n2
      · have q2 : decide ((12 : Int) < (n2 : Int)) = true := decide_eq_true (by omega)
        exact ⟨by simp only [n53, q0, q1, q2, decide_true, cond_true, cond_false], by simp only [n111, g, c, q0, q1, q2, decide_true, cond_true, cond_false]; rfl, .inl ⟨8, by decide, by simp only [m53, q0, q1, q2, decide_true, cond_true, cond_false], by simp only [m111, c, q0, q1, q2, decide_true, cond_true, cond_false]⟩⟩
      · have q2 : decide ((12 : Int) < (n2 : Int)) = false := decide_eq_false (by omega)
        cases q3 : m22 bg with
        | false => exact ⟨by simp only [n53, q0, q1, q2, q3, decide_true, cond_true, cond_false], by simp only [n111, g, c, q0, q1, q2, m80_m22, q3, decide_true, cond_true, cond_false]; rfl, .inl ⟨2, by decide, by simp only [m53, q0, q1, q2, q3, decide_true, cond_true, cond_false], by simp only [m111, c, q0, q1, q2, m80_m22, q3, decide_true, cond_true, cond_false]⟩⟩
        | true =>
          have ⟨b0, b1⟩ := m22_iff.1 q3
          rcases runs_joint (p := p) (s := s) C hA h1 bg n2 0 (0 + bg.toNat + n2 + (n2 : Int).toNat + (0 : Int).toNat + n + n' + bg.toNat + n2 + 8) ((0 : Int).toNat + n + n' + bg.toNat + n2 + n2 + 8) bg noDat (by omega) (by omega) (by omega) (fun j hj => absurd hj (Nat.not_lt_zero j)) b0 (by omega) with ⟨e, he, ⟨Y, Z, e1⟩, e2⟩ | ⟨e2, X, e1, e3⟩
          · have o1 : o111_1 n2 p (n2 : Int) n d n' D bg p n2 s 0 bg 0 noDat = some (true, (e, Y), Z) := e1
            have o2 : o53_0 n d n' d' bg n2 p n2 s 0 = some (true, e, default) := e2
            exact ⟨by simp only [n53, q0, q1, q2, q3, o2, decide_true, cond_true, cond_false]; rfl, by simp only [n111, g, c, q0, q1, q2, m80_m22, q3, o1, Option.isSome_some, Option.getD_some, decide_true, cond_true, cond_false]; rfl,
              .inl ⟨e, he, by simp only [m53, q0, q1, q2, q3, o2, Option.getD_some, decide_true, cond_true, cond_false], by simp only [m111, c, q0, q1, q2, m80_m22, q3, o1, Option.getD_some, decide_true, cond_true, cond_false]⟩⟩
          · have o1 : o111_1 n2 p (n2 : Int) n d n' D bg p n2 s 0 bg 0 noDat = some (false, default, (n2, n2, X)) := e1
            have o2 : o53_0 n d n' d' bg n2 p n2 s 0 = some (false, default, ()) := e2
            have o3 : o54_0 n d n' d' bg n2 p n2 s 0 bg 0 noDat = some (n2, n2, X) := e3 (0 + bg.toNat + (0 : Int).toNat + n + n' + bg.toNat + n2 + n2 + 8) (by omega)
            exact ⟨by simp only [n53, q0, q1, q2, q3, o2, decide_true, cond_true, cond_false]; rfl, by simp only [n111, g, c, q0, q1, q2, m80_m22, q3, o1, Option.isSome_some, Option.getD_some, Nat.zero_add, decide_eq_true (Nat.le_refl n2), decide_true, cond_true, cond_false]; rfl,
              .inr ⟨by omega, by omega, by simp only [m53, q0, q1, q2, q3, o2, Option.getD_some, decide_true, cond_true, cond_false], X, by simp only [m111, c, q0, q1, q2, m80_m22, q3, o1, Option.getD_some, decide_true, cond_true, cond_false], by simp only [n54, o3, Option.isSome_some, Option.getD_some, Nat.zero_add, decide_eq_true (Nat.le_refl n2)]; rfl, by simp only [m54, o3, Option.getD_some]⟩⟩
    · have q1 : decide ((n2 : Int) = (n1 : Int)) = false := decide_eq_false (by omega)
      have q1' : decide ((n1 : Int) = (n2 : Int)) = false := decide_eq_false (by omega)
      exact ⟨by simp only [n53, q0, q1', decide_true, cond_true, cond_false], by simp only [n111, g, c, q0, q1, decide_true, cond_true, cond_false]; rfl, .inl ⟨10, by decide, by simp only [m53, q0, q1', decide_true, cond_true, cond_false], by simp only [m111, c, q0, q1, decide_true, cond_true, cond_false]⟩⟩
theorem lawRuns (n : Nat) (d : Dat) (n' : Nat) (d' : Dat) (bg : Int) (n1 : Nat) (p : Dat) (n2 : Nat) (s : Dat) (nw : Nat) (dw : Dat) (hn : n ≤ 9223372036854775807) (hn' : n' ≤ 9223372036854775807) : n11 n d n' d' bg n1 p n2 s nw dw = true ∧ m11 n d n' d' bg n1 p n2 s nw dw = true := by
  obtain ⟨f1, f2⟩ := flat_ok d d' hn hn'
  cases hf : m24 n d n' d' with
  | false =>
    constructor
    · simp only [n11, n17_val, e17r, f1, hf, cond_true, cond_false]; rfl
    · simp only [m11, e17r, hf, cond_true, cond_false]
  | true =>
    obtain ⟨k1, k2, k3⟩ := f2 hf
    by_cases g1 : 14 < n1
    · have z : decide ((14 : Int) < (n1 : Int)) = true := decide_eq_true (by omega)
      constructor
      · simp only [n11, n17_val, e17r, f1, hf, z, cond_true, cond_false]; rfl
      · simp only [m11, e17r, hf, z, cond_true, cond_false]
    · have z1 : decide ((14 : Int) < (n1 : Int)) = false := decide_eq_false (by omega)
      by_cases g2 : 14 < n2
      · have z : decide ((14 : Int) < (n2 : Int)) = true := decide_eq_true (by omega)
        constructor
        · simp only [n11, n17_val, e17r, f1, hf, z1, z, cond_true, cond_false]; rfl
        · simp only [m11, e17r, hf, z1, z, cond_true, cond_false]
      · have z2 : decide ((14 : Int) < (n2 : Int)) = false := decide_eq_false (by omega)
        by_cases g3 : 14 < nw
        · have z : decide ((14 : Int) < (nw : Int)) = true := decide_eq_true (by omega)
          constructor
          · simp only [n11, n17_val, e17r, f1, hf, z1, z2, z, cond_true, cond_false]; rfl
          · simp only [m11, e17r, hf, z1, z2, z, cond_true, cond_false]
        · have z3 : decide ((14 : Int) < (nw : Int)) = false := decide_eq_false (by omega)
          rcases l11_run (nw := nw) (dw := dw) (by omega) n d n' d' bg n1 p n2 s nw 0 (nw + 0 + (0 : Int).toNat + n + n' + bg.toNat + n1 + n2 + 8) noDat (by omega) (by omega) (fun j hj => absurd hj (Nat.not_lt_zero j)) with ⟨X, Y, e⟩ | ⟨h5, W, hW, e⟩
          · have o : o11_0 nw dw n d n' d' bg n1 p n2 s 0 0 noDat = some (true, (true, X), Y) := e
            constructor
            · simp only [n11, n17_val, e17r, f1, hf, z1, z2, z3, o, Option.isSome_some, Option.getD_some, cond_true, cond_false]; rfl
            · simp only [m11, e17r, hf, z1, z2, z3, o, Option.getD_some, cond_true, cond_false]
          · have o : o11_0 nw dw n d n' d' bg n1 p n2 s 0 0 noDat = some (false, default, (nw, nw, W)) := e
            obtain ⟨a1, a2, D, hD, a3, a4, a5⟩ := chart_both (n := n) (d := d) (n' := n') (d' := d') (by omega) (by omega) (fun i hi => by have := k3 i hi; omega)
            have p1 := n50_t p (show n1 ≤ 1000 by omega)
            have p2 := n50_t s (show n2 ≤ 1000 by omega)
            have lw : decide (nw ≤ nw) = true := decide_eq_true (Nat.le_refl nw)
            rcases a5 with ⟨C, C', c1, c2⟩ | ⟨e0, he, c1, c2⟩
            · obtain ⟨t1, t2, ⟨x, hx, t3, t4⟩ | ⟨t0, t12, t3, X, t4, t5, t6⟩⟩ := times_ok (bg := bg) (n1 := n1) (n2 := n2) (p := p) (s := s) C hD a4 c2 (by omega) (by omega)
              · have v1 : n51 n d n' D bg n1 p n2 s = true := by simp only [n51, t2]; rfl
                have v2 : m51 n d n' D bg n1 p n2 s = (0, noDat, x) := by simp only [m51, t4]
                have v3 : n52 n d n' D bg n1 p n2 s nw W = true := by simp only [n52, t2, t4, decide_eq_false hx, cond_true, cond_false]; rfl
                have v4 : m52 n d n' D bg n1 p n2 s nw W = (0, x) := by simp only [m52, t4, decide_eq_false hx, cond_true, cond_false]
                constructor
                · simp only [n11, n17_val, e17r, f1, hf, z1, z2, z3, o, a1, a2, a3, p1, p2, m50_eq, v1, v3, t1, c1, t3, lw, Nat.zero_add, decide_eq_false hx, Option.isSome_some, Option.getD_some, decide_true, cond_true, cond_false]; rfl
                · simp only [m11, e17r, hf, z1, z2, z3, o, a3, m50_eq, v2, v4, c1, t3, decide_eq_false hx, Option.getD_some, decide_true, cond_true, cond_false]; rfl
              · have v1 : n51 n d n' D bg n1 p n2 s = true := by simp only [n51, t2]; rfl
                have v2 : m51 n d n' D bg n1 p n2 s = (n1, X, 0) := by simp only [m51, t4]
                have same := l11_same (n1 := n1) (X := X) (by omega) nw dw
                by_cases hw : nw = n1
                · have q1 : decide ((nw : Int) = (n1 : Int)) = true := decide_eq_true (by omega)
                  obtain ⟨r, r1, r2⟩ := fits_eq (X := X) hW hw (by omega) (fun i hi => h5 i (Nat.zero_le _) hi) n d n' D bg n1 p n2 s n d n' d' bg n1 p n2 s
                  have wi : IntKind.i64.wrap ((n1 : Int) - 1) = (n1 : Int) - 1 := wr (by omega) (by omega)
                  have zi : decide (0 ≤ (n1 : Int) - 1 ∧ (n1 : Int) - 1 < (n1 : Int)) = true := decide_eq_true ⟨by omega, by omega⟩
                  have v3 : n52 n d n' D bg n1 p n2 s nw W = true := by
                    simp only [n52, t2, t4, q1, r1, wi, zi, Option.isSome_some, Option.getD_some, decide_true, cond_true, cond_false]
                    cases r.1 <;> rfl
                  have v5 : n55 n d n' d' bg n1 p n2 s nw dw = true := by
                    simp only [n55, t5, t6, q1, r2, wi, zi, Option.isSome_some, Option.getD_some, cond_true, cond_false]
                    cases r.1 <;> rfl
                  have v4 : m52 n d n' D bg n1 p n2 s nw W = m55 n d n' d' bg n1 p n2 s nw dw := by
                    simp only [m52, m55, t4, t6, q1, r1, r2, Option.getD_some, decide_true, cond_true, cond_false]
                  constructor
                  · simp only [n11, n17_val, e17r, f1, hf, z1, z2, z3, o, a1, a2, a3, p1, p2, m50_eq, v1, v2, v3, v5, t1, c1, t3, t5, t6, lw, same, Nat.zero_add, Option.isSome_some, Option.getD_some, decide_true, cond_true, cond_false]; rfl
                  · simp only [m11, e17r, hf, z1, z2, z3, o, a3, m50_eq, v2, v4, c1, t3, t6, same, Option.getD_some, decide_true, cond_true, cond_false]
                · have q1 : decide ((nw : Int) = (n1 : Int)) = false := decide_eq_false (by omega)
                  have v3 : n52 n d n' D bg n1 p n2 s nw W = true := by simp only [n52, t2, t4, q1, decide_true, cond_true, cond_false]; rfl
                  have v4 : m52 n d n' D bg n1 p n2 s nw W = (0, 10) := by simp only [m52, t4, q1, decide_true, cond_true, cond_false]
                  have v5 : n55 n d n' d' bg n1 p n2 s nw dw = true := by simp only [n55, q1, cond_true, cond_false]
                  have v6 : m55 n d n' d' bg n1 p n2 s nw dw = (0, 10) := by simp only [m55, q1, cond_true, cond_false]
                  constructor
                  · simp only [n11, n17_val, e17r, f1, hf, z1, z2, z3, o, a1, a2, a3, p1, p2, m50_eq, v1, v2, v3, v5, t1, c1, t3, t5, t6, lw, same, Nat.zero_add, Option.isSome_some, Option.getD_some, decide_true, cond_true, cond_false]; rfl
                  · simp only [m11, e17r, hf, z1, z2, z3, o, a3, m50_eq, v2, v4, v6, c1, t3, t6, same, Option.getD_some, decide_true, cond_true, cond_false]
            · have t2 : n111 n d n' D bg n1 p n2 s = true := by simp only [n111, a4, c2, decide_eq_false he, cond_true, cond_false]; rfl
              have t4 : m111 n d n' D bg n1 p n2 s = (0, noDat, e0) := by simp only [m111, c2, decide_eq_false he, cond_true, cond_false]
              have v1 : n51 n d n' D bg n1 p n2 s = true := by simp only [n51, t2]; rfl
              have v2 : m51 n d n' D bg n1 p n2 s = (0, noDat, e0) := by simp only [m51, t4]
              have v3 : n52 n d n' D bg n1 p n2 s nw W = true := by simp only [n52, t2, t4, decide_eq_false he, cond_true, cond_false]; rfl
              have v4 : m52 n d n' D bg n1 p n2 s nw W = (0, e0) := by simp only [m52, t4, decide_eq_false he, cond_true, cond_false]
              constructor
              · simp only [n11, n17_val, e17r, f1, hf, z1, z2, z3, o, a1, a2, a3, p1, p2, m50_eq, v1, v3, c1, lw, Nat.zero_add, decide_eq_false he, Option.isSome_some, Option.getD_some, decide_true, cond_true, cond_false]; rfl
              · simp only [m11, e17r, hf, z1, z2, z3, o, a3, m50_eq, v2, v4, c1, decide_eq_false he, Option.getD_some, decide_true, cond_true, cond_false]; rfl
end Go.Proofs.Ytlaogoojkfjgoaa

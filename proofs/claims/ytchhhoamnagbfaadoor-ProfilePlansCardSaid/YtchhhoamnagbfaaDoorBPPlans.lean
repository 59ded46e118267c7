/-
  The law of plans: ends, points, mean depth, fastest ascent: plain law. Conditions: none.
-/
import Derived.Test.YtchhhoamnagbfaaDoorBPPlan
namespace Go.Proofs.YtchhhoamnagbfaaDoor
open Go Go.Sy
set_option linter.unusedVariables false
set_option linter.unusedSimpArgs false
set_option maxRecDepth 100000
theorem floorW {a b : Int} (hb : 0 < b) (hb2 : b ≤ 1000000000) (h0 : -1000000000000000 ≤ a) (h1 : a ≤ 1000000000000000) : m91 a b = a / b := by
  by_cases ha : 0 ≤ a
  · have q0 := Int.ediv_nonneg ha (show 0 ≤ b by omega)
    have q1 := Int.ediv_le_self b ha
    have hm : ¬ a.tmod b < 0 := by have := Int.tmod_nonneg b ha; omega
    simp only [m91, decide_eq_false hm, cond_false, Int.tdiv_eq_ediv_of_nonneg ha]
    exact wr (by omega) (by omega)
  · obtain ⟨c, rfl⟩ : ∃ c, a = -c := ⟨-a, by omega⟩
    have hc : 0 ≤ c := by omega
    have q0 := Int.ediv_nonneg hc (show 0 ≤ b by omega)
    have q1 := Int.ediv_le_self b hc
    have e := Int.mul_ediv_add_emod c b
    have r0 := Int.emod_nonneg c (show b ≠ 0 by omega)
    have r1 := Int.emod_lt_of_pos c hb
    simp only [m91, Int.neg_tdiv, Int.neg_tmod, Int.tdiv_eq_ediv_of_nonneg hc, Int.tmod_eq_emod_of_nonneg hc]
    by_cases hr : c % b = 0
    · rw [hr] at e ⊢
      simp only [Int.neg_zero, Int.lt_irrefl, decide_false, cond_false]
      rw [wr (by omega) (by omega)]
      refine (((Int.ediv_emod_unique (r := 0) hb).2 ⟨?_, by omega, hb⟩).1).symm
      rw [Int.mul_neg]; omega
    · simp only [decide_eq_true (show -(c % b) < 0 by omega), cond_true]
      rw [wr (n := -(c / b)) (by omega) (by omega), wr (by omega) (by omega)]
      refine (((Int.ediv_emod_unique (r := b - c % b) hb).2 ⟨?_, by omega, by omega⟩).1).symm
      rw [Int.mul_sub, Int.mul_neg]; omega
theorem roundW {X W : Int} (hX : 0 ≤ X ∧ X ≤ 100000000000000) (hW : 1 ≤ W ∧ W ≤ 1000000000) : m54 X W = m56 X W := by
  have q0 := Int.ediv_nonneg hX.1 (show 0 ≤ W by omega)
  have q1 := Int.ediv_le_self W hX.1
  have q2 := Int.ediv_nonneg (show 0 ≤ X + W - 1 by omega) (show 0 ≤ W by omega)
  have q3 := Int.ediv_le_self W (show 0 ≤ X + W - 1 by omega)
  have e54 : m54 X W = (X / W, (X + W - 1) / W) := by
    simp only [m54]
    rw [wr (n := X + W) (by omega) (by omega), wr (n := X + W - 1) (by omega) (by omega), Int.tdiv_eq_ediv_of_nonneg hX.1, Int.tdiv_eq_ediv_of_nonneg (by omega), wr (n := X / W) (by omega) (by omega), wr (n := (X + W - 1) / W) (by omega) (by omega)]
  have c := ceil_eq (X := X) (show 0 < W by omega)
  rw [e54]
  simp only [m56, m92]
  rw [wr (n := 0 - X) (by omega) (by omega), show (0 : Int) - X = -X from Int.zero_sub X, floorW (by omega) (by omega) (by omega) (by omega), floorW (by omega) (by omega) (by omega) (by omega), Int.zero_sub, ← c, wr (by omega) (by omega)]
theorem round_ne {X W : Int} (hW : W ≠ 0) : n54 X W = true ∧ n56 X W = true := by
  simp only [n54, n56, n91, n92, decide_eq_false hW]; exact ⟨rfl, rfl⟩
section
variable {a : ByteArray} {b : Int} {ng : Nat} {g : Dat} {L : Nat} {e : Dat}
def ar (e : Dat) : Nat → Int
  | 0 => 0
  | i + 1 => ar e i + e.ii i 0 * (dp e i + e.ii i 1)
theorem ar_bnd (P : Pln a b ng g L e) : ∀ {i : Nat}, i ≤ L → 0 ≤ ar e i ∧ ar e i ≤ 60000 * sm e i
  | 0, _ => by simp only [ar, sm]; decide
  | i + 1, h => by
    have := ar_bnd P (i := i) (by omega)
    obtain ⟨l0, l1, l2⟩ := (P.leg i (by omega))
    have z := P.dep (show i ≤ L by omega)
    have p := mulb (x := e.ii i 0) (y := dp e i + e.ii i 1) (A := e.ii i 0) (B := 60000) (by omega) (Int.le_refl _) (by omega) (by omega)
    simp only [ar, sm]
    omega
theorem ar_step (P : Pln a b ng g L e) {i : Nat} (h : i < L) : IntKind.i64.wrap (e.ii i 0 * (dp e i + e.ii i 1)) = e.ii i 0 * (dp e i + e.ii i 1) ∧ IntKind.i64.wrap (ar e i + e.ii i 0 * (dp e i + e.ii i 1)) = ar e (i + 1) ∧ IntKind.i64.wrap (dp e i + e.ii i 1) = dp e i + e.ii i 1 := by
  obtain ⟨l0, l1, l2⟩ := (P.leg i h)
  have z := P.dep (show i ≤ L by omega)
  have p := mulb (x := e.ii i 0) (y := dp e i + e.ii i 1) (A := 1000000) (B := 60000) (by omega) (by omega) (by omega) (by omega)
  have s1 := P.sum (i + 1) (by omega)
  have b1 := ar_bnd P (show i + 1 ≤ L by omega)
  refine ⟨wr (by omega) (by omega), ?_, wr (by omega) (by omega)⟩
  simp only [ar] at b1 ⊢
  exact wr (by omega) (by omega)
theorem mean_run (P : Pln a b ng g L e) {D : Dat} (hD : PtsOf e (L + 1) D) (x : Dat) : ∀ (k i f : Nat), i + k = L → k < f → l23_0 (L + 1) D L (D.shift 1) (L : Int) a b ng g L e 0 0 x f (ar e i) (i : Int) = some (ar e L)
  | 0, i, f, hi, hf => by
    obtain ⟨f, rfl⟩ : ∃ f0, f = f0 + 1 := ⟨f - 1, by omega⟩
    obtain rfl : i = L := by omega
    simp only [l23_0, cdn]; rfl
  | k + 1, i, f, hi, hf => by
    obtain ⟨f, rfl⟩ : ∃ f0, f = f0 + 1 := ⟨f - 1, by omega⟩
    have hlt : i < L := by omega
    have hL := P.legs
    have c1 : decide (0 ≤ (i : Int) ∧ (i : Int) < ((L + 1 : Nat) : Int)) = true := decide_eq_true ⟨by omega, by omega⟩
    have d0 := hD i (by omega); have d1 := hD (i + 1) (by omega)
    have s1 : (D.shift 1).ii i 1 = e.ii i 1 := by rw [shift_ii, Nat.add_comm 1 i, d1.2]; rfl
    have s0 : IntKind.i64.wrap ((D.shift 1).ii i 0 - D.ii i 0) = e.ii i 0 := by
      have l := P.leg0 hlt
      rw [shift_ii, Nat.add_comm 1 i, d1.1, d0.1]
      simp only [sm]
      rw [wr (by omega) (by omega)]; omega
    obtain ⟨u1, u2, u3⟩ := ar_step P hlt
    simp only [l23_0, cdl hlt, cdd hlt, c1, Int.toNat_natCast, s0, s1, d0.2, u3, cond_true, wrS hlt (by omega)]
    rw [Int.mul_comm (dp e i + e.ii i 1) (e.ii i 0), u1, u2]
    exact mean_run P hD x k (i + 1) f (by omega) (by omega)
theorem mean_run' (P : Pln a b ng g L e) : ∀ (k i f : Nat), i + k = L → k < f → l29_0 a b ng g L e 0 0 f (ar e i) (dp e i) (i : Int) = some (ar e L)
  | 0, i, f, hi, hf => by
    obtain ⟨f, rfl⟩ : ∃ f0, f = f0 + 1 := ⟨f - 1, by omega⟩
    obtain rfl : i = L := by omega
    simp only [l29_0, cdn]; rfl
  | k + 1, i, f, hi, hf => by
    obtain ⟨f, rfl⟩ : ∃ f0, f = f0 + 1 := ⟨f - 1, by omega⟩
    have hlt : i < L := by omega
    have hL := P.legs
    obtain ⟨u1, u2, u3⟩ := ar_step P hlt
    simp only [l29_0, cdl hlt, cdd hlt, Int.toNat_natCast, u1, u2, u3, cond_true, wrS hlt (by omega)]
    exact mean_run' P k (i + 1) f (by omega) (by omega)
theorem mean_ok (P : Pln a b ng g L e) : n23 a b ng g L e = true ∧ n29 a b ng g L e = true ∧ m23 a b ng g L e = ((m29 a b ng g L e).1, (m29 a b ng g L e).2, 0) := by
  have hL := P.legs
  have big : a.size ≤ 9223372036854775807 := by
    have h := P.name
    simp only [m64] at h
    by_cases hs : 12 < (a.size : Int)
    · rw [decide_eq_true hs] at h; simp only [Bool.cond_self, cond_true] at h
      revert h; cases decide ((a.size : Int) < 1) <;> intro h <;> cases h
    · omega
  have hfew := P.few
  obtain ⟨o1, o2⟩ := one_plan a b ng g L e big (by omega) (by omega)
  have hz : (m25 a b ng g L e).2 = 0 := by rw [(plan_ok a b ng g L e big (by omega) (by omega)).2.2.2.2 P]
  rw [hz] at o2
  obtain ⟨t1, D, t2, t3⟩ := track_ok P
  obtain ⟨v1, v2⟩ := end_ok P t3
  obtain ⟨s1, s2⟩ := seconds_ok P
  have w : ((((L + 1 : Nat) : Int) - 1).toNat) = L := by omega
  have c1 : decide ((0 : Int) ≤ (1 : Int) ∧ (1 : Int) ≤ ((L + 1 : Nat) : Int) ∧ ((L + 1 : Nat) : Int) ≤ ((L + 1 : Nat) : Int)) = true := decide_eq_true ⟨by omega, by omega, by omega⟩
  have h23 : ∀ x, o23_0 (L + 1) D L (D.shift 1) (L : Int) a b ng g L e 0 0 x 0 0 = some (ar e L) := fun x => mean_run P t3 x L 0 (L + 1 + Int.toNat 0 + L + (L : Int).toNat + Int.toNat 0 + a.size + b.toNat + ng + L + Int.toNat 0 + Int.toNat 0 + 8) (by omega) (by omega)
  have h29 : o29_0 a b ng g L e 0 0 0 0 0 = some (ar e L) := mean_run' P L 0 (Int.toNat 0 + Int.toNat 0 + Int.toNat 0 + a.size + b.toNat + ng + L + Int.toNat 0 + Int.toNat 0 + 8) (by omega) (by omega)
  have hd0 : decide ((0 : Int) = 0) = true := rfl
  by_cases h0 : L = 0
  · have hs : sm e L = 0 := by rw [h0]; rfl
    have hl : decide ((L : Int) = 0) = true := decide_eq_true (by omega)
    refine ⟨by simp only [n23, o1, o2, t1, t2, v1, v2, hs, hd0, decide_true, cond_true, cond_false, Bool.true_and, Bool.and_true], by simp only [n29, hl, cond_true], by simp only [m23, m29, o2, t2, v2, hs, hl, hd0, decide_true, cond_true, cond_false]⟩
  · have hp := sm_pos P (show 0 < L by omega) (Nat.le_refl _)
    have hb := P.sum L (Nat.le_refl _)
    have ha := ar_bnd P (Nat.le_refl L)
    have hs : decide (sm e L = 0) = false := decide_eq_false (by omega)
    have hl : decide ((L : Int) = 0) = false := decide_eq_false (by omega)
    have w2 : IntKind.i64.wrap (2 * sm e L) = 2 * sm e L := wr (by omega) (by omega)
    obtain ⟨r1, r2⟩ := round_ne (X := ar e L) (W := 2 * sm e L) (by omega)
    have rr := roundW (X := ar e L) (W := 2 * sm e L) ⟨by omega, by omega⟩ ⟨by omega, by omega⟩
    refine ⟨by simp only [n23, o1, o2, t1, t2, v1, v2, hs, hd0, decide_true, c1, w, h23, w2, r1, Option.getD_some, Option.isSome_some, cond_true, cond_false, Bool.true_and, Bool.and_true], by simp only [n29, hl, h29, s1, s2, w2, r2, Option.getD_some, Option.isSome_some, cond_false, Bool.true_and, Bool.and_true], by simp only [m23, m29, o2, t2, v2, s2, hs, hl, hd0, decide_true, w, h23, h29, w2, rr, Option.getD_some, cond_true, cond_false]⟩
theorem fast_run (P : Pln a b ng g L e) {D : Dat} (hD : PtsOf e (L + 1) D) (x : Dat) : ∀ (k i f f' : Nat) (best num den : Int), i + k = L → k < f → k < f' → (best = -1 ∨ 0 ≤ best) → (0 ≤ num ∧ num ≤ 1800000) → (1 ≤ den ∧ den ≤ 1000000) →
    ∃ best' num' den', l24_0 (L + 1) D L e (L : Int) a b ng g e 0 0 x f best (i : Int) num den = some (best', num', den') ∧ l30_0 a b ng g L e 0 0 f' best num den (dp e i) (i : Int) = some (best', num', den') ∧ (best' = -1 ∨ 0 ≤ best') ∧ (0 ≤ num' ∧ num' ≤ 1800000) ∧ (1 ≤ den' ∧ den' ≤ 1000000)
  | 0, i, f, f', best, num, den, hi, hf, hf', h1, h2, h3 => by
    obtain ⟨f, rfl⟩ : ∃ f0, f = f0 + 1 := ⟨f - 1, by omega⟩
    obtain ⟨f', rfl⟩ : ∃ f0, f' = f0 + 1 := ⟨f' - 1, by omega⟩
    obtain rfl : i = L := by omega
    exact ⟨best, num, den, by simp only [l24_0, cdn]; rfl, by simp only [l30_0, cdn]; rfl, h1, h2, h3⟩
  | k + 1, i, f, f', best, num, den, hi, hf, hf', h1, h2, h3 => by
    obtain ⟨f, rfl⟩ : ∃ f0, f = f0 + 1 := ⟨f - 1, by omega⟩
    obtain ⟨f', rfl⟩ : ∃ f0, f' = f0 + 1 := ⟨f' - 1, by omega⟩
    have hlt : i < L := by omega
    have hL := P.legs
    have c1 : decide (0 ≤ (i : Int) ∧ (i : Int) < ((L + 1 : Nat) : Int)) = true := decide_eq_true ⟨by omega, by omega⟩
    have d0 := (hD i (by omega)).2
    have l := P.leg i hlt
    have z := P.dep (show i ≤ L by omega)
    obtain ⟨l0, l1, _⟩ := l
    have w1 : IntKind.i64.wrap (dp e i - e.ii i 1) = dp e i - e.ii i 1 := wr (by omega) (by omega)
    have w2 : IntKind.i64.wrap (60 * (dp e i - e.ii i 1)) = 60 * (dp e i - e.ii i 1) := wr (by omega) (by omega)
    by_cases hh : IntKind.i64.wrap (num * e.ii i 0) < IntKind.i64.wrap (60 * (dp e i - e.ii i 1) * den)
    · have pos : 0 ≤ 60 * (dp e i - e.ii i 1) := by
        apply Decidable.byContradiction
        intro hneg
        have p1 := mulb h2.1 h2.2 (show 0 ≤ e.ii i 0 by omega) l0.2
        have p2 := mulb (x := -(60 * (dp e i - e.ii i 1))) (y := den) (A := 1800000) (B := 1000000) (by omega) (by omega) (by omega) (by omega)
        rw [Int.neg_mul] at p2
        rw [wr (n := num * e.ii i 0) (by omega) (by omega), wr (n := 60 * (dp e i - e.ii i 1) * den) (by omega) (by omega)] at hh
        omega
      obtain ⟨best', num', den', g1, g2, g3⟩ := fast_run P hD x k (i + 1) f f' (i : Int) (60 * (dp e i - e.ii i 1)) (e.ii i 0) (by omega) (by omega) (by omega) (.inr (by omega)) ⟨by omega, by omega⟩ l0
      refine ⟨best', num', den', ?_, ?_, g3⟩
      · simp only [l24_0, cdl hlt, cdd hlt, c1, Int.toNat_natCast, m63, d0, w1, w2, decide_eq_true hh, cond_true, wrS hlt (by omega)]
        exact g1
      · simp only [l30_0, cdl hlt, cdd hlt, Int.toNat_natCast, w1, w2, decide_eq_true hh, cond_true, wrS hlt (by omega)]
        exact g2
    · obtain ⟨best', num', den', g1, g2, g3⟩ := fast_run P hD x k (i + 1) f f' best num den (by omega) (by omega) (by omega) h1 h2 h3
      refine ⟨best', num', den', ?_, ?_, g3⟩
      · simp only [l24_0, cdl hlt, cdd hlt, c1, Int.toNat_natCast, m63, d0, w1, w2, decide_eq_false hh, cond_true, cond_false, wrS hlt (by omega)]
        exact g1
      · simp only [l30_0, cdl hlt, cdd hlt, Int.toNat_natCast, w1, w2, decide_eq_false hh, cond_true, cond_false, wrS hlt (by omega)]
        exact g2
theorem Pln.small (P : Pln a b ng g L e) : a.size ≤ 12 := by
  have h := P.name
  simp only [m64] at h
  by_cases hs : 12 < (a.size : Int)
  · rw [decide_eq_true hs] at h
    revert h; cases decide ((a.size : Int) < 1) <;> intro h <;> cases h
  · omega
theorem fast_ok (P : Pln a b ng g L e) : n24 a b ng g L e = true ∧ n30 a b ng g L e = true ∧
    (((m30 a b ng g L e).1 < 0 ∧ m24 a b ng g L e = (0, 0, 0, 12)) ∨ (¬ (m30 a b ng g L e).1 < 0 ∧ m24 a b ng g L e = ((m30 a b ng g L e).1, (m30 a b ng g L e).2.1, (m30 a b ng g L e).2.2, 0))) := by
  have hL := P.legs; have big := P.small; have hfew := P.few
  obtain ⟨o1, o2⟩ := one_plan a b ng g L e (by omega) (by omega) (by omega)
  have hz : (m25 a b ng g L e).2 = 0 := by rw [(plan_ok a b ng g L e (by omega) (by omega) (by omega)).2.2.2.2 P]
  rw [hz] at o2
  obtain ⟨t1, D, t2, t3⟩ := track_ok P
  have hd0 : decide ((0 : Int) = 0) = true := rfl
  obtain ⟨best, num, den, g1, g2, g3, g4, g5⟩ := fast_run P t3 (datS [SV.str a, SV.int IntKind.i64 b, SV.ro [Kd.int IntKind.i64, Kd.int IntKind.i64] ng g, SV.ro [Kd.int IntKind.i64, Kd.int IntKind.i64, Kd.int IntKind.i64] L e] 4) L 0 (Int.toNat (-1) + (L + 1) + L + (L : Int).toNat + Int.toNat 0 + a.size + b.toNat + ng + Int.toNat 0 + Int.toNat 0 + Int.toNat 0 + Int.toNat 1 + 8) (Int.toNat (-1) + Int.toNat 0 + Int.toNat 1 + Int.toNat 0 + Int.toNat 0 + a.size + b.toNat + ng + L + Int.toNat 0 + Int.toNat 0 + 8) (-1) 0 1 (by omega) (by omega) (by omega) (.inl rfl) ⟨by decide, by decide⟩ ⟨by decide, by decide⟩
  have h24 : o24_0 (L + 1) D L e (L : Int) a b ng g e 0 0 (datS [SV.str a, SV.int IntKind.i64 b, SV.ro [Kd.int IntKind.i64, Kd.int IntKind.i64] ng g, SV.ro [Kd.int IntKind.i64, Kd.int IntKind.i64, Kd.int IntKind.i64] L e] 4) (-1) 0 0 1 = some (best, num, den) := g1
  have h30 : o30_0 a b ng g L e 0 0 (-1) 0 1 0 0 = some (best, num, den) := g2
  obtain ⟨r1, r2⟩ := round_ne (X := num) (W := den) (by omega)
  have rr := roundW (X := num) (W := den) ⟨by omega, by omega⟩ ⟨by omega, by omega⟩
  by_cases hb : best < 0
  · refine ⟨by simp only [n24, o1, o2, t1, t2, hd0, decide_true, h24, decide_eq_true hb, Option.getD_some, Option.isSome_some, cond_true, cond_false, Bool.true_and, Bool.and_true], by simp only [n30, h30, decide_eq_true hb, Option.getD_some, Option.isSome_some, cond_true, Bool.true_and, Bool.and_true], .inl ⟨?_, by simp only [m24, o2, t2, hd0, decide_true, h24, decide_eq_true hb, Option.getD_some, cond_true, cond_false]⟩⟩
    simp only [m30, h30, decide_eq_true hb, Option.getD_some, cond_true]; decide
  · refine ⟨by simp only [n24, o1, o2, t1, t2, hd0, decide_true, h24, decide_eq_false hb, r1, Option.getD_some, Option.isSome_some, cond_true, cond_false, Bool.true_and, Bool.and_true], by simp only [n30, h30, decide_eq_false hb, r2, Option.getD_some, Option.isSome_some, cond_false, Bool.true_and, Bool.and_true], .inr ⟨?_, by simp only [m24, m30, o2, t2, hd0, decide_true, h24, h30, rr, decide_eq_false hb, Option.getD_some, cond_true, cond_false]⟩⟩
    simp only [m30, h30, decide_eq_false hb, Option.getD_some, cond_false]; exact hb
end
theorem points_eq {n : Nat} (hn : n ≤ 9223372036854775807) {D E : Dat} (h : ∀ q, q < n → D.ii q 0 = E.ii q 0 ∧ D.ii q 1 = E.ii q 1) : n27 n D n E = true ∧ m27 n D n E = true := by
  have hl : o27_0 n D n E 0 = some (first (fun _ => none) (false, default, ()) n 0) := loop_first (l := l27_0 n D n E) hn (fun f i hi => by
    have q := h i hi
    simp only [l27_0, cdl hi, cdd hi, cond_true, cond_false, Int.toNat_natCast, q.1, q.2, decide_true]; rfl) (fun f => by simp only [l27_0, cdn]; rfl) n 0 _ (by omega) (by omega)
  have hf : first (fun _ : Nat => (none : Option (Bool × Bool × Unit))) (false, default, ()) n 0 = (false, default, ()) := first_none fun _ _ _ => rfl
  rw [hf] at hl
  simp only [n27, m27, hl, decide_true]
  exact ⟨rfl, rfl⟩
theorem plans_ok (a : ByteArray) (b : Int) (ng : Nat) (g : Dat) (L : Nat) (e : Dat) : n4 a b ng g L e = true ∧ m4 a b ng g L e = true := by
  by_cases hs : m18 a b ng g L e = true
  · have hb : a.size ≤ 20 ∧ ng ≤ 10 ∧ L ≤ 62 := by
      simp only [m18] at hs
      by_cases h1 : (a.size : Int) ≤ 20
      · by_cases h2 : (ng : Int) ≤ 10
        · by_cases h3 : (L : Int) ≤ 10
          · omega
          · by_cases h4 : (60 : Int) < (L : Int)
            · have : decide ((L : Int) ≤ 62) = true := by simpa [h1, h2, h3, h4] using hs
              have := of_decide_eq_true this; omega
            · simp [h1, h2, h3, h4] at hs
        · simp [h1, h2] at hs
      · simp [h1] at hs
    have n59t : n59 ng g = true := by simp only [n59, Nat.zero_add, decide_eq_true (show ng ≤ 1073741824 by omega), Nat.le_refl, decide_true]; rfl
    have n36t : n36 L e = true := by simp only [n36, Nat.zero_add, decide_eq_true (show L ≤ 1073741824 by omega), Nat.le_refl, decide_true]; rfl
    have n20t : n20 a b ng g L e = true := by simp only [n20, n59t, n36t]; rfl
    have m20e : m20 a b ng g L e = (a, b, ng, g, L, e) := by simp only [m20, m59, m36, Nat.zero_add, app_nil0]
    obtain ⟨p1, p2, p3, p4, p5⟩ := plan_ok a b ng g L e (by omega) (by omega) (by omega)
    obtain ⟨o1, o2⟩ := one_plan a b ng g L e (by omega) (by omega) (by omega)
    have hd0 : decide ((0 : Int) = 0) = true := rfl
    by_cases hz : (m25 a b ng g L e).2 = 0
    · have P := p4 hz
      have q := p5 P
      rw [q] at o2 p3
      obtain ⟨t1, D, t2, t3⟩ := track_ok P
      obtain ⟨u1, E, u2, u3⟩ := points_ok P
      obtain ⟨v1, v2⟩ := end_ok P t3
      obtain ⟨s1, s2⟩ := seconds_ok P
      obtain ⟨x1, x2, x3⟩ := mean_ok P
      obtain ⟨f1, f2, f3⟩ := fast_ok P
      obtain ⟨e1, e2⟩ := points_eq (n := L + 1) (by omega) (D := D) (E := E) fun i hi => by
        rw [(t3 i hi).1, (t3 i hi).2, (u3 i hi).1, (u3 i hi).2]; exact ⟨rfl, rfl⟩
      have n21t : n21 a b ng g L e = true := by simp only [n21, o1, o2, t1, t2, v1, hd0, decide_true, cond_true, cond_false, Bool.true_and, Bool.and_true]
      have n22t : n22 a b ng g L e = true := by simp only [n22, o1, o2, t1, hd0, decide_true, cond_true, cond_false, Bool.true_and, Bool.and_true]
      have m21e : m21 a b ng g L e = (sm e L, 0) := by simp only [m21, o2, t2, v2, hd0, decide_true, cond_true, cond_false]
      have m22e : m22 a b ng g L e = (L + 1, D, 0) := by simp only [m22, o2, t2, hd0, decide_true, cond_true, cond_false]
      have hdd : ∀ x : Int, decide (x = x) = true := fun x => decide_eq_true rfl
      constructor
      · simp only [n4, n10_t, m10_t, hs, n20t, m20e, p1, p2, p3, q, n21t, n22t, x1, x2, f1, f2, s1, s2, u1, u2, e1, e2, m21e, m22e, x3, hdd, hd0, decide_true, cond_true, cond_false, Bool.true_and, Bool.and_true, Bool.and_self, Bool.cond_self]
      · rcases f3 with ⟨f3, f4⟩ | ⟨f3, f4⟩
        · simp only [m4, n10_t, m10_t, hs, m20e, p3, q, s2, u2, e2, m21e, m22e, x3, hdd, hd0, decide_true, f4, decide_eq_true f3, cond_true, cond_false, Bool.true_and, Bool.and_true, Bool.and_self, Bool.cond_self]
        · simp only [m4, n10_t, m10_t, hs, m20e, p3, q, s2, u2, e2, m21e, m22e, x3, hdd, hd0, decide_true, f4, decide_eq_false f3, cond_true, cond_false, Bool.true_and, Bool.and_true, Bool.and_self, Bool.cond_self]
    · have hz' : decide ((m25 a b ng g L e).2 = 0) = false := decide_eq_false hz
      have hdd : ∀ x : Int, decide (x = x) = true := fun x => decide_eq_true rfl
      have n21t : n21 a b ng g L e = true := by simp only [n21, o1, o2, hz', cond_true, cond_false, Bool.true_and, Bool.and_true]
      have n22t : n22 a b ng g L e = true := by simp only [n22, o1, o2, hz', cond_true, cond_false, Bool.true_and, Bool.and_true]
      have n23t : n23 a b ng g L e = true := by simp only [n23, o1, o2, hz', cond_true, cond_false, Bool.true_and, Bool.and_true]
      have n24t : n24 a b ng g L e = true := by simp only [n24, o1, o2, hz', cond_true, cond_false, Bool.true_and, Bool.and_true]
      have m21e : m21 a b ng g L e = (0, (m25 a b ng g L e).2) := by simp only [m21, o2, hz', cond_true, cond_false]
      have m22e : m22 a b ng g L e = (0, noDat, (m25 a b ng g L e).2) := by simp only [m22, o2, hz', cond_true, cond_false]
      have m23e : m23 a b ng g L e = (0, 0, (m25 a b ng g L e).2) := by simp only [m23, o2, hz', cond_true, cond_false]
      have m24e : m24 a b ng g L e = (0, 0, 0, (m25 a b ng g L e).2) := by simp only [m24, o2, hz', cond_true, cond_false]
      have h00 : decide (((0 : Nat) : Int) = 0) = true := rfl
      constructor
      · simp only [n4, n10_t, m10_t, hs, n20t, m20e, p1, p2, p3, n21t, n22t, n23t, n24t, hz', hdd, hd0, decide_true, cond_true, cond_false, Bool.true_and, Bool.and_true, Bool.and_self, Bool.cond_self]
      · simp only [m4, n10_t, m10_t, hs, m20e, p3, m21e, m22e, m23e, m24e, hz', hdd, hd0, decide_true, h00, cond_true, cond_false, Bool.true_and, Bool.and_true, Bool.and_self, Bool.cond_self]
  · have hs : m18 a b ng g L e = false := by simpa using hs
    exact ⟨by simp only [n4, n10_t, m10_t, hs, cond_true, cond_false, Bool.and_true], by simp only [m4, m10_t, hs, cond_true, cond_false]⟩
end Go.Proofs.YtchhhoamnagbfaaDoor

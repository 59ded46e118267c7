/-
  The plain laws of 'SiteMinutes' and 'SiteWindows': the laws' models are true, and their needs. Conditions: none.
-/
import Derived.Test.YtlaogoojkfjgoaaAPJoin
namespace Go.Proofs.Ytlaogoojkfjgoaa
open Go Go.Sy
set_option linter.unusedVariables false
set_option linter.unusedSimpArgs false
set_option maxRecDepth 100000
attribute [local simp] brk
theorem m49_ok {n : Nat} {d : Dat} {x : Int} (hn : n ≤ 9223372036854775807) : n49 n d x = true ∧ (m49 n d x = true ↔ InW n d x) := by
  have o : o49_0 n d x 0 = some (first (fun i => cond (m29 x (d.ii i 0) (d.ii i 1)) (some (true, true, default)) none) (false, default, ()) n 0) := by
    refine loop_first (n := n) (l := l49_0 n d x) hn (fun f i hi => ?_) (fun f => by simp only [l49_0, cdn]; rfl) n 0 _ (by omega) (by omega)
    simp only [l49_0, cdl hi, cdd hi, cond_true, Int.toNat_natCast]
    cases m29 x (d.ii i 0) (d.ii i 1) <;> simp
  refine ⟨by simp only [n49, o]; rfl, ?_⟩
  simp only [m49, o, Option.getD_some]
  rcases first_cases (g := fun i => cond (m29 x (d.ii i 0) (d.ii i 1)) (some (true, true, (default : Unit))) none) (e := (false, default, ())) n 0 with ⟨j, b, _, hj, h3, _, h5⟩ | ⟨h1, h2⟩
  · have hm : m29 x (d.ii j 0) (d.ii j 1) = true := by
      cases hh : m29 x (d.ii j 0) (d.ii j 1) with
      | true => rfl
      | false => simp only [hh, cond_false] at h3; cases h3
    simp only [hm, cond_true] at h3
    rw [h5, ← Option.some.inj h3]
    exact ⟨fun _ => ⟨j, by omega, m29_iff.1 hm⟩, fun _ => rfl⟩
  · rw [h2]
    refine ⟨fun h => (by cases h), fun ⟨i, hi, h⟩ => ?_⟩
    have := h1 i (Nat.zero_le _) (by omega)
    simp only [m29_iff.2 h, cond_true] at this
    cases this
theorem gd_idx : ∀ {L : List (Int × Int)}, Gd L → ∀ (j i : Nat) (hj : j < L.length) (hi : i < j), (L[j]).2 + 1 < (L[i]'(by omega)).1
  | [], _, j, _, hj, _ => by simp at hj
  | w :: T, G, j, i, hj, hi => by
    obtain ⟨j, rfl⟩ : ∃ j', j = j' + 1 := ⟨j - 1, by omega⟩
    cases i with
    | zero => exact G.2.1 _ (List.getElem_mem _)
    | succ i => exact gd_idx G.2.2 j i (by simpa using hj) (by omega)
theorem gd_wns {c : Nat} {D : Dat} {L : List (Int × Int)} (R : Rep c D L) (G : Gd L) (hc : c ≤ 60) : Wns c D := by
  have hl := R.1
  refine ⟨hc, fun i hi => (gd_rng G _ (rep_at R hi)).1, fun i hi => (gd_rng G _ (rep_at R hi)).2.1, fun i hi => (gd_rng G _ (rep_at R hi)).2.2, fun i hi => ?_⟩
  have h := gd_idx G (c - 1 - i) (c - 1 - (i + 1)) (by omega) (by omega)
  obtain ⟨_, a2⟩ := R.2 (c - 1 - i) _ (List.getElem?_eq_getElem (by omega))
  obtain ⟨b1, _⟩ := R.2 (c - 1 - (i + 1)) _ (List.getElem?_eq_getElem (by omega))
  rw [show c - 1 - (c - 1 - i) = i by omega] at a2
  rw [show c - 1 - (c - 1 - (i + 1)) = i + 1 by omega] at b1
  rw [a2, b1]; exact h
theorem rep_in {c : Nat} {D : Dat} {L : List (Int × Int)} (R : Rep c D L) (x : Int) : InW c D x ↔ Mb L x := by
  constructor
  · rintro ⟨i, hi, h⟩; exact ⟨_, rep_at R hi, h⟩
  · rintro ⟨w, hw, h⟩
    obtain ⟨q, hq, e1, e2⟩ := rep_mem R hw
    exact ⟨q, hq, by rw [e1, e2]; exact h⟩
theorem wns_zero {n : Nat} {d : Dat} (W : Wns n d) : m45 n d = 0 ∧ m44 n d = 0 := by
  have few := W.few
  have hn : n ≤ 9223372036854775807 := by omega
  obtain ⟨_, _, w3, _⟩ := windows_cases (n := n) (d := d) hn
  have z : decide ((60 : Int) < (n : Int)) = false := decide_eq_false (by omega)
  have h : m44 n d = 0 := by
    simp only [m44, z, l44_all hn, cond_false, Option.getD_some]
    rw [first_none fun i _ hi => ?_]
    · rfl
    · have hi : i < n := by omega
      have a := W.lo i hi; have b := W.le i hi; have c := W.hi i hi
      simp only [badW, m22_iff.2 ⟨a, by omega⟩, m22_iff.2 ⟨show 0 ≤ d.ii i 1 by omega, c⟩, decide_eq_false (show ¬ d.ii i 1 < d.ii i 0 by omega), cond_true, cond_false]
      by_cases h0 : 0 < i
      · have u := W.up (i - 1) (by omega)
        rw [show i - 1 + 1 = i by omega] at u
        have l := W.lo (i - 1) (by omega); have l2 := W.le (i - 1) (by omega); have l3 := W.hi (i - 1) (by omega)
        rw [wr (by omega) (by omega), decide_eq_false (show ¬ d.ii i 0 ≤ d.ii (i - 1) 1 + 1 by omega), decide_eq_true h0]; rfl
      · rw [decide_eq_false h0]; rfl
  exact ⟨w3.trans h, h⟩
theorem lawMinutes (n : Nat) (d : Dat) (m : Nat) (e : Dat) (x : Int) (hn : n ≤ 9223372036854775807) (hm : m ≤ 9223372036854775807) : n10 n d m e x = true ∧ m10 n d m e x = true := by
  obtain ⟨a1, a2, a3, a4⟩ := windows_cases (n := n) (d := d) hn
  obtain ⟨b1, b2, b3, b4⟩ := windows_cases (n := m) (d := e) hm
  by_cases hg : 12 < n ∨ 12 < m
  · have z : (bif decide (12 < (n : Int)) then true else decide (12 < (m : Int))) = true := by
      rcases hg with h | h
      · rw [decide_eq_true (show (12 : Int) < (n : Int) by omega)]; rfl
      · rw [decide_eq_true (show (12 : Int) < (m : Int) by omega)]; cases decide ((12 : Int) < (n : Int)) <;> rfl
    constructor
    · simp only [n10, n17_val, e17v, z, a1, b1, cond_true, cond_false]; rfl
    · simp only [m10, e17v, z, cond_true, cond_false]
  · have z : (bif decide (12 < (n : Int)) then true else decide (12 < (m : Int))) = false := by
      rw [decide_eq_false (show ¬ (12 : Int) < (n : Int) by omega), decide_eq_false (show ¬ (12 : Int) < (m : Int) by omega)]; rfl
    rcases a4 with ⟨W, w4⟩ | w4
    · rcases b4 with ⟨V, v4⟩ | v4
      · rw [w4] at a3
        rw [v4] at b3
        obtain ⟨p1, c, D, L, p2, p3, p4, p5, p6⟩ := meet_ok W V a3 b3 (by omega)
        obtain ⟨q1, c', D', L', q2, q3, q4, q5, q6⟩ := join_ok W V a3 b3 (by omega)
        have hc := p3.1; have hc' := q3.1
        obtain ⟨x1, _⟩ := wns_zero (gd_wns p3 p4 (by omega))
        obtain ⟨y1, _⟩ := wns_zero (gd_wns q3 q4 (by omega))
        have k1 := (windows_cases (n := c) (d := D) (by omega)).2.1
        have k2 := (windows_cases (n := c') (d := D') (by omega)).2.1
        obtain ⟨i1, i2⟩ := m49_ok (n := n) (d := d) (x := x) hn
        obtain ⟨j1, j2⟩ := m49_ok (n := m) (d := e) (x := x) hm
        obtain ⟨u1, u2⟩ := m49_ok (n := c) (d := D) (x := x) (by omega)
        obtain ⟨v1, v2⟩ := m49_ok (n := c') (d := D') (x := x) (by omega)
        have r1 : m49 c D x = (bif m49 n d x then m49 m e x else false) := by
          rw [Bool.eq_iff_iff, u2, rep_in p3, p6, ← i2, ← j2]
          cases m49 n d x <;> cases m49 m e x <;> simp
        have r2 : m49 c' D' x = (bif m49 n d x then true else m49 m e x) := by
          rw [Bool.eq_iff_iff, v2, rep_in q3, q6, ← i2, ← j2]
          cases m49 n d x <;> cases m49 m e x <;> simp
        have f1 := n42_t d (show n ≤ 1000 by omega)
        have f2 := n42_t e (show m ≤ 1000 by omega)
        have g1 : decide ((c : Int) ≤ 30) = true := decide_eq_true (by omega)
        have g2 : decide ((c' : Int) ≤ 30) = true := decide_eq_true (by omega)
        constructor
        · simp only [n10, n17_val, e17v, z, a1, b1, w4, v4, f1, f2, m42_eq, p1, p2, q1, q2, i1, j1, u1, v1, r1, r2, k1, k2, x1, y1, g1, g2, decide_true, cond_true, cond_false]; rfl
        · simp only [m10, e17v, z, w4, v4, m42_eq, p2, q2, r1, r2, x1, y1, g1, g2, decide_true, cond_true, cond_false]
      · constructor
        · simp only [n10, n17_val, e17v, z, a1, b1, w4, decide_eq_false v4, decide_true, cond_true, cond_false]; rfl
        · simp only [m10, e17v, z, w4, decide_eq_false v4, decide_true, cond_true, cond_false]
    · constructor
      · simp only [n10, n17_val, e17v, z, a1, b1, decide_eq_false w4, cond_true, cond_false]; rfl
      · simp only [m10, e17v, z, decide_eq_false w4, cond_true, cond_false]
end Go.Proofs.Ytlaogoojkfjgoaa

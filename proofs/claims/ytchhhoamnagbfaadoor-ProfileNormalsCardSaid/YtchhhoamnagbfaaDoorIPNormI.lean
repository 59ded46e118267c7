/-
  Normal forms: what holds of the legs as they are built: plain law. Conditions: none.
-/
import Derived.Test.YtchhhoamnagbfaaDoorIPNorm
namespace Go.Proofs.YtchhhoamnagbfaaDoor
open Go Go.Sy
set_option linter.unusedVariables false
set_option linter.unusedSimpArgs false
set_option maxRecDepth 100000
structure NI (g e : Dat) (i : Nat) (s : Nat × Dat) : Prop where
  cnt : s.1 ≤ i
  pos : 0 < i → 0 < s.1
  sum : sm s.2 s.1 = sm e i
  fin : dp s.2 s.1 = dp e i
  ok : ∀ q, q < s.1 → 1 ≤ s.2.ii q 0 ∧ (0 ≤ s.2.ii q 1 ∧ s.2.ii q 1 ≤ 30000) ∧ 0 ≤ s.2.ii q 2 ∧ s.2.ii q 2 < ((gst g e i).1 : Int)
  used : ∀ v : Nat, v < (gst g e i).1 → ∃ q, q < s.1 ∧ s.2.ii q 2 = (v : Int)
  ord : ∀ q, q < s.1 → ∀ v : Nat, (v : Int) < s.2.ii q 2 → ∃ q', q' < q ∧ s.2.ii q' 2 = (v : Int)
  adj : ∀ q, q + 1 < s.1 → ¬ (s.2.ii q 2 = s.2.ii (q + 1) 2 ∧ (dp s.2 (q + 1) - dp s.2 q) * s.2.ii (q + 1) 0 = (dp s.2 (q + 2) - dp s.2 (q + 1)) * s.2.ii q 0)
  cov : ∀ r, r < i → ∃ q, q < s.1 ∧ s.2.ii q 2 = gk g e r ∧ sm s.2 q ≤ sm e r ∧ sm e (r + 1) ≤ sm s.2 (q + 1) ∧ (dp e r - dp s.2 q) * s.2.ii q 0 = (s.2.ii q 1 - dp s.2 q) * (sm e r - sm s.2 q) ∧ (dp e (r + 1) - dp s.2 q) * s.2.ii q 0 = (s.2.ii q 1 - dp s.2 q) * (sm e (r + 1) - sm s.2 q)
theorem sm_eq {o o' : Dat} {n : Nat} (h : ∀ q, q < n → ∀ c, o'.ii q c = o.ii q c) {q : Nat} (hq : q ≤ n) : sm o' q = sm o q := sm_congr fun k hk => h k (by omega) 0
theorem dp_eq {o o' : Dat} {n : Nat} (h : ∀ q, q < n → ∀ c, o'.ii q c = o.ii q c) {q : Nat} (hq : q ≤ n) : dp o' q = dp o q := dp_congr fun k hk => h k (by omega) 1
theorem ni_step {ng : Nat} {g e : Dat} {L : Nat} (hl : ∀ j, j < L → LegOk ng e j) {i : Nat} (hi : i < L) {s : Nat × Dat} (I : NI g e i s) : NI g e (i + 1) (stepL s (e.ii i 0) (e.ii i 1) (gk g e i)) := by
  obtain ⟨⟨l1, l2⟩, ⟨l3, l4⟩, l5, l6⟩ := hl i hi
  obtain ⟨k, k1, k2, k3, k4, k5, k6⟩ := gk_spec (g := g) hl hi
  have cm : (gst g e i).1 ≤ (gst g e (i + 1)).1 := (gst_mono1 i).1
  have cs : (gst g e (i + 1)).1 = (gst g e i).1 ∨ ((gst g e (i + 1)).1 = (gst g e i).1 + 1 ∧ k = (gst g e i).1) := by
    rcases gk_step (g := g) hl hi with ⟨a, b⟩ | ⟨a, b⟩
    · have := gst_more a
      right
      exact ⟨by rw [this], by rw [k1] at b; omega⟩
    · left; rw [gst_same a]
  by_cases hm : Mrg s (e.ii i 0) (e.ii i 1) (gk g e i)
  · obtain ⟨m0, m1, m2⟩ := hm
    obtain ⟨u1, u2, u3, u4, u5⟩ := step_mrg ⟨m0, m1, m2⟩
    generalize stepL s (e.ii i 0) (e.ii i 1) (gk g e i) = s' at *
    obtain ⟨n, o⟩ := s
    obtain ⟨n', o'⟩ := s'
    simp only at *
    obtain ⟨n, rfl⟩ : ∃ p, n = p + 1 := ⟨n - 1, by omega⟩
    simp only [Nat.add_sub_cancel] at *
    subst u1
    have hsame : (gst g e (i + 1)).1 = (gst g e i).1 := by
      rcases cs with h | ⟨h, h'⟩
      · exact h
      · have := (I.ok n (by omega)).2.2.2
        simp only at this
        rw [m1, k1] at this; omega
    have u2' : ∀ q, q < n → ∀ c, o'.ii q c = o.ii q c := fun q hq c => u2 q (by omega) c
    have s1 : ∀ {q}, q ≤ n → sm o' q = sm o q := fun hq => sm_eq u2' hq
    have d1 : ∀ {q}, q ≤ n → dp o' q = dp o q := fun hq => dp_eq u2' hq
    have S0 := (I.ok n (by omega)).1
    simp only at S0
    have sn : sm o' (n + 1) = sm o (n + 1) + e.ii i 0 := by simp only [sm]; rw [s1 (Nat.le_refl _), u3]; omega
    have dn : dp o' (n + 1) = e.ii i 1 := u4
    have don : dp o (n + 1) = o.ii n 1 := rfl
    have hsum := I.sum; have hfin := I.fin
    simp only at hsum hfin
    have m2 : (dp o (n + 1) - dp o n) * e.ii i 0 = (e.ii i 1 - dp o (n + 1)) * o.ii n 0 := m2
    have asm : sm o (n + 1) = sm o n + o.ii n 0 := rfl
    have esm : sm e (i + 1) = sm e i + e.ii i 0 := rfl
    have edp : dp e (i + 1) = e.ii i 1 := rfl
    refine ⟨Nat.le_succ_of_le I.cnt, fun _ => Nat.succ_pos n, ?_, ?_, fun q hq => ?_, fun v hv => ?_, fun q hq v hv => ?_, fun q hq => ?_, fun r hr => ?_⟩
    · show sm o' (n + 1) = _; rw [sn, hsum]; rfl
    · show dp o' (n + 1) = _; rw [dn]; rfl
    · show 1 ≤ o'.ii q 0 ∧ _
      rw [hsame]
      by_cases h : q = n
      · subst h
        have ok := (I.ok q (by omega)).2.2
        simp only at ok
        rw [u3, u4, u5, k1]
        rw [m1, k1] at ok
        exact ⟨by omega, ⟨l3, l4⟩, ok.1, ok.2⟩
      · have hq : q < n + 1 := hq
        rw [u2' q (by omega), u2' q (by omega), u2' q (by omega)]
        exact I.ok q hq
    · rw [hsame] at hv
      obtain ⟨q, a, b⟩ := I.used v hv
      refine ⟨q, a, ?_⟩
      show o'.ii q 2 = _
      have a : q < n + 1 := a
      have b : o.ii q 2 = (v : Int) := b
      by_cases h : q = n
      · subst h; rw [u5, ← m1]; exact b
      · rw [u2' q (by omega)]; exact b
    · have hq : q < n + 1 := hq
      have hv : (v : Int) < o'.ii q 2 := hv
      have e2 : o'.ii q 2 = o.ii q 2 := by
        by_cases h : q = n
        · subst h; rw [u5, ← m1]
        · exact u2' q (by omega) 2
      rw [e2] at hv
      obtain ⟨q', a, b⟩ := I.ord q hq v hv
      exact ⟨q', a, by show o'.ii q' 2 = _; rw [u2' q' (by omega)]; exact b⟩
    · have hq : q + 1 < n + 1 := hq
      show ¬ (o'.ii q 2 = o'.ii (q + 1) 2 ∧ (dp o' (q + 1) - dp o' q) * o'.ii (q + 1) 0 = (dp o' (q + 2) - dp o' (q + 1)) * o'.ii q 0)
      have old := I.adj q hq
      simp only at old
      rw [u2' q (by omega), u2' q (by omega), d1 (show q + 1 ≤ n by omega), d1 (show q ≤ n by omega)]
      by_cases h : q + 1 = n
      · rw [h] at old ⊢
        rw [show q + 2 = n + 1 by omega] at old ⊢
        rw [u5, u3, dn]
        rw [m1] at old
        rintro ⟨x1, x2⟩
        refine old ⟨x1, ?_⟩
        refine line_back (T := e.ii i 0) (B := e.ii i 1 - dp o (n + 1)) (by omega) (by omega) m2 ?_
        rw [x2]
        congr 1; omega
      · rw [u2' (q + 1) (by omega), u2' (q + 1) (by omega), d1 (show q + 2 ≤ n by omega)]
        exact old
    · by_cases hri : r < i
      · obtain ⟨q, c1, c2, c3, c4, c5, c6⟩ := I.cov r hri
        simp only at c1 c2 c3 c4 c5 c6
        by_cases h : q = n
        · subst h
          refine ⟨q, c1, ?_, ?_, ?_, ?_, ?_⟩
          · show o'.ii q 2 = _; rw [u5, ← m1]; exact c2
          · show sm o' q ≤ _; rw [s1 (Nat.le_refl _)]; exact c3
          · show _ ≤ sm o' (q + 1); rw [sn]; omega
          · show (_ - dp o' q) * o'.ii q 0 = (o'.ii q 1 - dp o' q) * (_ - sm o' q)
            rw [u3, u4, d1 (Nat.le_refl _), s1 (Nat.le_refl _)]
            have := line_more (T := e.ii i 0) (B := e.ii i 1 - dp o (q + 1)) (by omega) m2 (h := dp e r - dp o q) (t := sm e r - sm o q) c5
            rw [this]; congr 1; omega
          · show (_ - dp o' q) * o'.ii q 0 = (o'.ii q 1 - dp o' q) * (_ - sm o' q)
            rw [u3, u4, d1 (Nat.le_refl _), s1 (Nat.le_refl _)]
            have := line_more (T := e.ii i 0) (B := e.ii i 1 - dp o (q + 1)) (by omega) m2 (h := dp e (r + 1) - dp o q) (t := sm e (r + 1) - sm o q) c6
            rw [this]; congr 1; omega
        · refine ⟨q, c1, ?_, ?_, ?_, ?_, ?_⟩
          · show o'.ii q 2 = _; rw [u2' q (by omega)]; exact c2
          · show sm o' q ≤ _; rw [s1 (by omega)]; exact c3
          · show _ ≤ sm o' (q + 1); rw [s1 (by omega)]; exact c4
          · show (_ - dp o' q) * o'.ii q 0 = (o'.ii q 1 - dp o' q) * (_ - sm o' q)
            rw [u2' q (by omega), u2' q (by omega), d1 (by omega), s1 (by omega)]; exact c5
          · show (_ - dp o' q) * o'.ii q 0 = (o'.ii q 1 - dp o' q) * (_ - sm o' q)
            rw [u2' q (by omega), u2' q (by omega), d1 (by omega), s1 (by omega)]; exact c6
      · obtain rfl : r = i := by omega
        refine ⟨n, Nat.lt_succ_self n, u5, ?_, ?_, ?_, ?_⟩
        · show sm o' n ≤ _; rw [s1 (Nat.le_refl _)]; omega
        · show _ ≤ sm o' (n + 1); rw [sn]; omega
        · show (_ - dp o' n) * o'.ii n 0 = (o'.ii n 1 - dp o' n) * (_ - sm o' n)
          rw [u3, u4, d1 (Nat.le_refl _), s1 (Nat.le_refl _)]
          have := line_more (T := e.ii r 0) (B := e.ii r 1 - dp o (n + 1)) (by omega) m2 (h := dp e r - dp o n) (t := sm e r - sm o n) (by rw [← hfin, ← hsum, asm, show sm o n + o.ii n 0 - sm o n = o.ii n 0 by omega])
          rw [this]; congr 1; omega
        · show (_ - dp o' n) * o'.ii n 0 = (o'.ii n 1 - dp o' n) * (_ - sm o' n)
          rw [u3, u4, d1 (Nat.le_refl _), s1 (Nat.le_refl _), edp]
          congr 1; omega
  · obtain ⟨u1, u2, u3, u4, u5⟩ := step_app hm
    generalize stepL s (e.ii i 0) (e.ii i 1) (gk g e i) = s' at *
    obtain ⟨n, o⟩ := s
    obtain ⟨n', o'⟩ := s'
    simp only at *
    subst u1
    have s1 : ∀ {q}, q ≤ n → sm o' q = sm o q := fun hq => sm_eq u2 hq
    have d1 : ∀ {q}, q ≤ n → dp o' q = dp o q := fun hq => dp_eq u2 hq
    have sn : sm o' (n + 1) = sm o n + e.ii i 0 := by simp only [sm]; rw [s1 (Nat.le_refl _), u3]
    have dn : dp o' (n + 1) = e.ii i 1 := u4
    have hsum := I.sum; have hfin := I.fin
    simp only at hsum hfin
    have esm : sm e (i + 1) = sm e i + e.ii i 0 := rfl
    have edp : dp e (i + 1) = e.ii i 1 := rfl
    refine ⟨Nat.succ_le_succ I.cnt, fun _ => Nat.succ_pos n, ?_, ?_, fun q hq => ?_, fun v hv => ?_, fun q hq v hv => ?_, fun q hq => ?_, fun r hr => ?_⟩
    · show sm o' (n + 1) = _; rw [sn, hsum]; rfl
    · show dp o' (n + 1) = _; rw [dn]; rfl
    · show 1 ≤ o'.ii q 0 ∧ _
      have hq : q < n + 1 := hq
      by_cases h : q = n
      · subst h; rw [u3, u4, u5, k1]; exact ⟨l1, ⟨l3, l4⟩, by omega, by omega⟩
      · rw [u2 q (by omega), u2 q (by omega), u2 q (by omega)]
        have := I.ok q (show q < n by omega)
        simp only at this
        exact ⟨this.1, this.2.1, this.2.2.1, by omega⟩
    · by_cases hv' : v < (gst g e i).1
      · obtain ⟨q, a, b⟩ := I.used v hv'
        exact ⟨q, Nat.lt_succ_of_lt a, by show o'.ii q 2 = _; rw [u2 q a]; exact b⟩
      · refine ⟨n, Nat.lt_succ_self n, ?_⟩
        show o'.ii n 2 = _
        rw [u5, k1]
        omega
    · have hq : q < n + 1 := hq
      have hv : (v : Int) < o'.ii q 2 := hv
      by_cases h : q = n
      · subst h
        rw [u5, k1] at hv
        obtain ⟨q', a, b⟩ := I.used v (by omega)
        exact ⟨q', a, by show o'.ii q' 2 = _; rw [u2 q' a]; exact b⟩
      · rw [u2 q (by omega)] at hv
        obtain ⟨q', a, b⟩ := I.ord q (show q < n by omega) v hv
        exact ⟨q', a, by show o'.ii q' 2 = _; rw [u2 q' (by omega)]; exact b⟩
    · have hq : q + 1 < n + 1 := hq
      show ¬ (o'.ii q 2 = o'.ii (q + 1) 2 ∧ (dp o' (q + 1) - dp o' q) * o'.ii (q + 1) 0 = (dp o' (q + 2) - dp o' (q + 1)) * o'.ii q 0)
      rw [u2 q (by omega), u2 q (by omega), d1 (show q + 1 ≤ n by omega), d1 (show q ≤ n by omega)]
      by_cases h : q + 1 = n
      · rw [show q + 2 = n + 1 by omega, dn, h, u3, u5]
        rintro ⟨x1, x2⟩
        refine hm ⟨show 0 < n by omega, ?_, ?_⟩
        · show o.ii (n - 1) 2 = _; rw [show n - 1 = q by omega]; exact x1
        · show (dp o n - dp o (n - 1)) * _ = (_ - dp o n) * o.ii (n - 1) 0
          rw [show n - 1 = q by omega]; exact x2
      · rw [u2 (q + 1) (by omega), u2 (q + 1) (by omega), d1 (show q + 2 ≤ n by omega)]
        exact I.adj q (show q + 1 < n by omega)
    · by_cases hri : r < i
      · obtain ⟨q, c1, c2, c3, c4, c5, c6⟩ := I.cov r hri
        simp only at c1 c2 c3 c4 c5 c6
        refine ⟨q, Nat.lt_succ_of_lt c1, ?_, ?_, ?_, ?_, ?_⟩
        · show o'.ii q 2 = _; rw [u2 q c1]; exact c2
        · show sm o' q ≤ _; rw [s1 (by omega)]; exact c3
        · show _ ≤ sm o' (q + 1); rw [s1 (by omega)]; exact c4
        · show (_ - dp o' q) * o'.ii q 0 = (o'.ii q 1 - dp o' q) * (_ - sm o' q)
          rw [u2 q c1, u2 q c1, d1 (by omega), s1 (by omega)]; exact c5
        · show (_ - dp o' q) * o'.ii q 0 = (o'.ii q 1 - dp o' q) * (_ - sm o' q)
          rw [u2 q c1, u2 q c1, d1 (by omega), s1 (by omega)]; exact c6
      · obtain rfl : r = i := by omega
        refine ⟨n, Nat.lt_succ_self n, u5, ?_, ?_, ?_, ?_⟩
        · show sm o' n ≤ _; rw [s1 (Nat.le_refl _)]; omega
        · show _ ≤ sm o' (n + 1); rw [sn]; omega
        · show (_ - dp o' n) * o'.ii n 0 = (o'.ii n 1 - dp o' n) * (_ - sm o' n)
          rw [u3, u4, d1 (Nat.le_refl _), s1 (Nat.le_refl _), hfin, hsum, Int.sub_self, Int.sub_self, Int.zero_mul, Int.mul_zero]
        · show (_ - dp o' n) * o'.ii n 0 = (o'.ii n 1 - dp o' n) * (_ - sm o' n)
          rw [u3, u4, d1 (Nat.le_refl _), s1 (Nat.le_refl _), edp]
          congr 1; omega
theorem ni_all {ng : Nat} {g e : Dat} {L : Nat} (hl : ∀ j, j < L → LegOk ng e j) : ∀ i, i ≤ L → NI g e i (lst g e i)
  | 0, _ => ⟨Nat.le_refl _, fun h => absurd h (Nat.lt_irrefl _), rfl, rfl, fun q hq => absurd hq (Nat.not_lt_zero _), fun v hv => absurd hv (Nat.not_lt_zero _), fun q hq => absurd hq (Nat.not_lt_zero _), fun q hq => absurd hq (Nat.not_lt_zero _), fun r hr => absurd hr (Nat.not_lt_zero _)⟩
  | i + 1, h => ni_step hl (show i < L by omega) (ni_all hl i (by omega))
end Go.Proofs.YtchhhoamnagbfaaDoor

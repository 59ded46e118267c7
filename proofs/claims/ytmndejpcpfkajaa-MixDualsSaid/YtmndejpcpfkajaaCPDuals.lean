/-
  The plain law of 'MixDuals'. Conditions: none.
-/
import Derived.Test.YtmndejpcpfkajaaCPFill
namespace Go.Proofs.Ytmndejpcpfkajaa
open Go Go.Sy Lin
set_option linter.unusedVariables false
set_option linter.unusedSimpArgs false
set_option linter.unusedSectionVars false
set_option maxRecDepth 100000
section
variable (n : Nat) (hn : n ≤ 9223372036854775807) (d : Dat) (hs : ∀ i, i < n → (d.ss i 0).size ≤ 9223372036854775807) (b1 b2 b3 T ol oh hl hh : Int) (p : Nat) (dp : Dat) (den : Int)
include hn hs
theorem plan_is (h : m34 n d b1 b2 b3 T ol oh hl hh = 0) (hp : (m38 n d b1 b2 b3 T ol oh hl hh p dp den).2 = 0) :
    p = n ∧ (1 ≤ den ∧ den ≤ 1000000) ∧ (lpOf (askD n d b1 b2 b3 T ol oh hl hh)).Plan den (xOf n d dp) ∧ m97 (askD n d b1 b2 b3 T ol oh hl hh) p dp den = ((lpOf (askD n d b1 b2 b3 T ol oh hl hh)).cost (xOf n d dp), 0) := by
  have K := askK_of (rightK_of hn hs h)
  obtain ⟨_, _, e1⟩ := good_plan n hn d hs b1 b2 b3 T ol oh hl hh p dp den h
  obtain ⟨_, _, e2, _⟩ := plan_ok n hn d hs b1 b2 b3 T ol oh hl hh p dp den h
  rw [e1, ← e2] at hp
  obtain ⟨_, g2, g3⟩ := plan_spec K p dp den
  obtain ⟨r1, r2, r3, r4⟩ := g2 hp
  exact ⟨r1, r2, r3, g3 r1 r2.1 r2.2 r3⟩
theorem cmp_ge (h : m34 n d b1 b2 b3 T ol oh hl hh = 0) (hp : (m38 n d b1 b2 b3 T ol oh hl hh p dp den).2 = 0) (W a b c e q : Int) :
    ((m71 n d b1 b2 b3 T ol oh hl hh p dp den W a b c e q).2 = 0 → 0 ≤ (m71 n d b1 b2 b3 T ol oh hl hh p dp den W a b c e q).1) ∧ (InW W a b c e q → (m71 n d b1 b2 b3 T ol oh hl hh p dp den W a b c e q).2 = 0) := by
  have K := askK_of (rightK_of hn hs h)
  obtain ⟨a1, a2, a3⟩ := task_good n hn d hs b1 b2 b3 T ol oh hl hh h
  obtain ⟨w1, w2, w3, w4⟩ := weights_both W a b c e q
  obtain ⟨rfl, hden, hpl, h97⟩ := plan_is n hn d hs b1 b2 b3 T ol oh hl hh p dp den h hp
  have hcs := cost_small K hden hpl
  have h97' := h97
  unfold askD at h97'
  cases hw : m98 W a b c e q
  · refine ⟨fun h0 => ?_, fun h0 => ?_⟩
    · simp only [m71, a1, a3, cond_false, h97', hw] at h0
      exfalso
      have h0 : (2 : Int) = 0 := h0
      omega
    · rw [m98_in h0] at hw; cases hw
  · obtain ⟨i1, i2, i3, i4, i5, i6⟩ := w4 hw
    have hv := (value_le K (times := 1) (.inr rfl) i1 i2 i3 i4 i5 i6).1
    have hmx := value_i64 K W a b c e q 1
    rw [Int.one_mul] at hv
    have hwk := (lpOf (askD p d b1 b2 b3 T ol oh hl hh)).weak hpl W (a - b) (c - e) q
    generalize hC : (lpOf (askD p d b1 b2 b3 T ol oh hl hh)).cost (xOf p d dp) = C at *
    generalize hV : m99 (askD p d b1 b2 b3 T ol oh hl hh) W a b c e q 1 = V at *
    obtain ⟨v1, v2⟩ := compare_prog (n := C) (d := den) (m := V) (k := q) hcs.1 (by omega) (by omega) (by omega) (by omega) hcs.2 hmx
    have hle : V * den ≤ C * q := by
      have := Int.mul_le_mul_of_nonneg_left hv (show 0 ≤ den by omega)
      have e1 : V * den = den * V := Int.mul_comm _ _
      have e2 : C * q = q * C := Int.mul_comm _ _
      omega
    have hsg : 0 ≤ sgn (C * q - V * den) := by
      unfold sgn; split <;> (try split) <;> omega
    have hV' := hV
    have h98 := h97
    unfold askD at hV' h98
    have e : m71 p d b1 b2 b3 T ol oh hl hh p dp den W a b c e q = (sgn (C * q - V * den), 0) := by
      simp only [m71, a1, a3, cond_false, h98, hw, hV', v2]
      rfl
    rw [e]
    exact ⟨fun _ => hsg, fun _ => rfl⟩
theorem ref_no (h : m34 n d b1 b2 b3 T ol oh hl hh = 0) (hp : (m38 n d b1 b2 b3 T ol oh hl hh p dp den).2 = 0) (W a b c e q : Int) :
    ¬ (m70 n d b1 b2 b3 T ol oh hl hh W a b c e q).2 = 0 := by
  have K := askK_of (rightK_of hn hs h)
  obtain ⟨a1, a2, a3⟩ := task_good n hn d hs b1 b2 b3 T ol oh hl hh h
  obtain ⟨w1, w2, w3, w4⟩ := weights_both W a b c e q
  obtain ⟨rfl, hden, hpl, _⟩ := plan_is n hn d hs b1 b2 b3 T ol oh hl hh p dp den h hp
  intro h0
  cases hw : m98 W a b c e q
  · simp only [m70, a1, a3, cond_false, hw] at h0
    have h0 : (2 : Int) = 0 := h0
    omega
  · obtain ⟨i1, i2, i3, i4, i5, i6⟩ := w4 hw
    have hv := (value_le K (times := 0) (.inl rfl) i1 i2 i3 i4 i5 i6).1
    rw [Int.zero_mul] at hv
    have hwk := (lpOf (askD p d b1 b2 b3 T ol oh hl hh)).weak hpl W (a - b) (c - e) 0
    rw [Int.zero_mul] at hwk
    have hle : m99 (askD p d b1 b2 b3 T ol oh hl hh) W a b c e q 0 ≤ 0 := by
      rcases Int.lt_or_le 0 (m99 (askD p d b1 b2 b3 T ol oh hl hh) W a b c e q 0) with g | g
      · have := Int.mul_pos (show 0 < den by omega) g
        have := Int.mul_le_mul_of_nonneg_left hv (show 0 ≤ den by omega)
        omega
      · exact g
    simp only [m70, a1, a3, cond_false, hw] at h0
    have h0 : (cond (decide (m99 (askD p d b1 b2 b3 T ol oh hl hh) W a b c e q 0 ≤ 0)) ((0 : Int), (22 : Int)) (m99 (askD p d b1 b2 b3 T ol oh hl hh) W a b c e q 0, (0 : Int))).2 = 0 := h0
    rw [decide_eq_true hle] at h0
    have h0 : (22 : Int) = 0 := h0
    omega
theorem lawDuals (W a b c e q : Int) : n17 n d b1 b2 b3 T ol oh hl hh p dp den W a b c e q = true ∧ m17 n d b1 b2 b3 T ol oh hl hh p dp den W a b c e q = true := by
  have a54 := l37_some n hn d b1 b2 b3 T ol oh hl hh
  have e57 : m36 n d b1 b2 b3 T ol oh hl hh = (n, d, b1, b2, b3, T, ol, oh, hl, hh) := by simp only [m36, app_zero, Nat.zero_add]
  have e55 : ∀ p dp, m39 p dp = (p, dp) := fun p dp => by simp only [m39, app_zero, Nat.zero_add]
  obtain ⟨t1, t2, t3⟩ := task_both n hn d hs b1 b2 b3 T ol oh hl hh
  by_cases hL : m37 n d b1 b2 b3 T ol oh hl hh = true ∧ p ≤ 8
  · obtain ⟨h54, hp8⟩ := hL
    have hn7 := light_few hn h54
    have a57 : n36 n d b1 b2 b3 T ol oh hl hh = true := by
      have : n ≤ 1073741824 := by omega
      simp [n36, this]
    have a55 : n39 p dp = true := by
      have : p ≤ 1073741824 := by omega
      simp [n39, this]
    have hp9 : decide (8 < (p : Int)) = false := decide_eq_false (by omega)
    by_cases h61 : m34 n d b1 b2 b3 T ol oh hl hh = 0
    · obtain ⟨p1, p2, p6⟩ := good_plan n hn d hs b1 b2 b3 T ol oh hl hh p dp den h61
      by_cases hpl : (m38 n d b1 b2 b3 T ol oh hl hh p dp den).2 = 0
      · have hpi := plan_is n hn d hs b1 b2 b3 T ol oh hl hh p dp den h61 hpl
        have hno := ref_no n hn d hs b1 b2 b3 T ol oh hl hh p dp den h61 hpl W a b c e q
        obtain ⟨r1, _, _⟩ := good_refusal n hn d hs b1 b2 b3 T ol oh hl hh W a b c e q h61
        obtain ⟨f1, f2⟩ := fill_good n hn d hs b1 b2 b3 T ol oh hl hh h61
        rcases f2 with ⟨bp, bden, W', a', b', c', e', q', g1, g2, g3, _⟩ | ⟨W', a', b', c', e', q', g1, g2, g3⟩
        · obtain ⟨s1, _, _⟩ := good_compare n hn d hs b1 b2 b3 T ol oh hl hh p dp den W' a' b' c' e' q' h61
          obtain ⟨u1, _, _⟩ := good_compare n hn d hs b1 b2 b3 T ol oh hl hh p dp den W a b c e q h61
          obtain ⟨k1, k2⟩ := cmp_ge n hn d hs b1 b2 b3 T ol oh hl hh p dp den h61 hpl W' a' b' c' e' q'
          have k2 := k2 g3
          have k1 := k1 k2
          have k1' : decide ((m71 n d b1 b2 b3 T ol oh hl hh p dp den W' a' b' c' e' q').1 < 0) = false := decide_eq_false (by omega)
          obtain ⟨j1, _⟩ := cmp_ge n hn d hs b1 b2 b3 T ol oh hl hh p dp den h61 hpl W a b c e q
          constructor
          · simp only [n17, e57, e55, n44_true, m44_true, a54, h54, hp9, a57, a55, p1, hpl, r1, hno, f1, g1, s1, u1, k2, k1']
            rfl
          · simp only [m17, e57, e55, m44_true, h54, hp9, hpl, hno, g1, k2, k1']
            by_cases hz : (m71 n d b1 b2 b3 T ol oh hl hh p dp den W a b c e q).2 = 0
            · have := j1 hz
              simp only [hz, this]
              rfl
            · simp only [hz]
              rfl
        · exact absurd hpi.2.2.1 (g3 _ _)
      · constructor
        · simp only [n17, e57, e55, n44_true, m44_true, a54, h54, hp9, a57, a55, p1, hpl]
          rfl
        · simp only [m17, e57, e55, m44_true, h54, hp9, hpl]
          rfl
    · obtain ⟨⟨p1, p2⟩, _⟩ := task_bad n hn d hs b1 b2 b3 T ol oh hl hh p dp den W a b c e q h61
      have hpl : ¬ (m38 n d b1 b2 b3 T ol oh hl hh p dp den).2 = 0 := by rw [p2]; exact h61
      constructor
      · simp only [n17, e57, e55, n44_true, m44_true, a54, h54, hp9, a57, a55, p1, hpl]
        rfl
      · simp only [m17, e57, e55, m44_true, h54, hp9, hpl]
        rfl
  · have hc : (bif (bif m37 n d b1 b2 b3 T ol oh hl hh then false else true) then true else decide (8 < (p : Int))) = true := by
      cases h : m37 n d b1 b2 b3 T ol oh hl hh
      · rfl
      · have : ¬ p ≤ 8 := fun k => hL ⟨h, k⟩
        have : decide (8 < (p : Int)) = true := decide_eq_true (by omega)
        rw [this]; rfl
    constructor
    · simp only [n17, n44_true, m44_true, a54, hc]
      rfl
    · simp only [m17, m44_true, hc]
      rfl
end
end Go.Proofs.Ytmndejpcpfkajaa

/-
  The plain laws of 'MixCheapest' and 'MixDuals'. Conditions: none.
-/
import Derived.Test.YtmndejpcpfkajaaBPFill
namespace Go.Proofs.Ytmndejpcpfkajaa
open Go Go.Sy Lin
set_option linter.unusedVariables false
set_option linter.unusedSimpArgs false
set_option linter.unusedSectionVars false
set_option maxRecDepth 100000
theorem lawCheapest (n : Nat) (hn : n ≤ 9223372036854775807) (d : Dat) (hs : ∀ i, i < n → (d.ss i 0).size ≤ 9223372036854775807) (b1 b2 b3 T ol oh hl hh : Int) :
    n16 n d b1 b2 b3 T ol oh hl hh = true ∧ m16 n d b1 b2 b3 T ol oh hl hh = true := by
  have a54 := l37_some n hn d b1 b2 b3 T ol oh hl hh
  have e57 : m36 n d b1 b2 b3 T ol oh hl hh = (n, d, b1, b2, b3, T, ol, oh, hl, hh) := by simp only [m36, app_zero, Nat.zero_add]
  have e55 : ∀ p dp, m39 p dp = (p, dp) := fun p dp => by simp only [m39, app_zero, Nat.zero_add]
  obtain ⟨t1, t2, t3⟩ := task_both n hn d hs b1 b2 b3 T ol oh hl hh
  by_cases hL : m37 n d b1 b2 b3 T ol oh hl hh = true
  · have hn7 := light_few hn hL
    have a57 : n36 n d b1 b2 b3 T ol oh hl hh = true := by
      have : n ≤ 1073741824 := by omega
      simp [n36, this]
    have a55 : ∀ dp, n39 n dp = true := fun dp => by
      have : n ≤ 1073741824 := by omega
      simp [n39, this]
    have a550 : ∀ dp, n39 0 dp = true := fun dp => by simp [n39]
    have hrefl : decide (m34 n d b1 b2 b3 T ol oh hl hh = m34 n d b1 b2 b3 T ol oh hl hh) = true := decide_eq_true rfl
    by_cases h61 : m34 n d b1 b2 b3 T ol oh hl hh = 0
    · obtain ⟨f1, f2⟩ := fill_good n hn d hs b1 b2 b3 T ol oh hl hh h61
      rcases f2 with ⟨bp, den, W, a, b, c, e, q, g1, g2, _⟩ | ⟨W, a, b, c, e, q, g1, g2, _⟩
      · obtain ⟨s1, s2, s3⟩ := good_compare n hn d hs b1 b2 b3 T ol oh hl hh n bp den W a b c e q h61
        rw [g2] at s3
        constructor
        · simp only [n16, v16, t16_0, t16_1, t16_2, t16_3, t16_4, t16_5, t16_6, t16_7, t16_8, t16_9, t16_10, t16_11, t16_12, t16_13, t16_14, t16_15, t16_16, t16_17, t16_18, t16_19, t16_20, t16_21, e57, e55, n44_true, m44_true, a54, hL, a57, a55, f1, g1, t1, t2, t3, h61, s1, s2]
          rfl
        · simp only [m16, w16, t16_0, t16_1, t16_2, t16_3, t16_4, t16_5, t16_6, t16_7, t16_8, t16_9, t16_10, t16_11, t16_12, t16_13, t16_14, t16_15, t16_16, t16_17, t16_18, t16_19, t16_20, t16_21, e57, e55, m44_true, hL, g1, t3, h61, g2, ← s3]
          rfl
      · obtain ⟨r1, r2, r3⟩ := good_refusal n hn d hs b1 b2 b3 T ol oh hl hh W a b c e q h61
        rw [r3] at g2
        constructor
        · simp only [n16, v16, t16_0, t16_1, t16_2, t16_3, t16_4, t16_5, t16_6, t16_7, t16_8, t16_9, t16_10, t16_11, t16_12, t16_13, t16_14, t16_15, t16_16, t16_17, t16_18, t16_19, t16_20, t16_21, e57, e55, n44_true, m44_true, a54, hL, a57, a550, f1, g1, t1, t2, t3, h61, r1, r2]
          rfl
        · simp only [m16, w16, t16_0, t16_1, t16_2, t16_3, t16_4, t16_5, t16_6, t16_7, t16_8, t16_9, t16_10, t16_11, t16_12, t16_13, t16_14, t16_15, t16_16, t16_17, t16_18, t16_19, t16_20, t16_21, e57, e55, m44_true, hL, g1, t3, h61, r3, g2]
          rfl
    · obtain ⟨f1, g1⟩ := fill_bad n hn d hs b1 b2 b3 T ol oh hl hh h61
      constructor
      · simp only [n16, v16, t16_0, t16_1, t16_2, t16_3, t16_4, t16_5, t16_6, t16_7, t16_8, t16_9, t16_10, t16_11, t16_12, t16_13, t16_14, t16_15, t16_16, t16_17, t16_18, t16_19, t16_20, t16_21, e57, e55, n44_true, m44_true, a54, hL, a57, f1, g1, t1, t2, t3, hrefl, h61]
        rfl
      · simp only [m16, w16, t16_0, t16_1, t16_2, t16_3, t16_4, t16_5, t16_6, t16_7, t16_8, t16_9, t16_10, t16_11, t16_12, t16_13, t16_14, t16_15, t16_16, t16_17, t16_18, t16_19, t16_20, t16_21, e57, e55, m44_true, hL, g1, t3, hrefl, h61]
        rfl
  · have hL' : m37 n d b1 b2 b3 T ol oh hl hh = false := by
      cases h : m37 n d b1 b2 b3 T ol oh hl hh
      · rfl
      · exact absurd h hL
    constructor
    · simp only [n16, v16, n44_true, m44_true, a54, hL']
      rfl
    · simp only [m16, w16, m44_true, hL']
      rfl
end Go.Proofs.Ytmndejpcpfkajaa

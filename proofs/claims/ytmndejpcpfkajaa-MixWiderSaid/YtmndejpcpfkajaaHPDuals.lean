/-
  The plain law of 'MixDuals'. Conditions: none.
-/
import Derived.Test.YtmndejpcpfkajaaHPFill
namespace Go.Proofs.Ytmndejpcpfkajaa
open Go Go.Sy Lin
set_option linter.unusedVariables false
set_option linter.unusedSimpArgs false
set_option linter.unusedSectionVars false
set_option maxRecDepth 100000
section
variable (n : Nat) (hn : n ≤ 9223372036854775807) (d : Dat) (hs : ∀ i, i < n → (d.ss i 0).size ≤ 9223372036854775807) (b1 b2 b3 T ol oh hl hh : Int) (p : Nat) (dp : Dat) (den : Int)
include hn hs
theorem plan_is (h : m34 n d b1 b2 b3 T ol oh hl hh = 0) (hp : (m38 n d b1 b2 b3 T ol oh hl hh p dp den).2 = 0) :
    p = n ∧ (1 ≤ den ∧ den ≤ 1000000) ∧ (lpOf (askD n d b1 b2 b3 T ol oh hl hh)).Plan den (xOf n d dp) ∧ m97 (askD n d b1 b2 b3 T ol oh hl hh) p dp den = ((lpOf (askD n d b1 b2 b3 T ol oh hl hh)).cost (xOf n d dp), 0) := by
  have K := askK_of (rightK_of hn hs h)
  obtain ⟨_, _, e1⟩ := good_plan n hn d hs b1 b2 b3 T ol oh hl hh p dp den h
  obtain ⟨_, _, e2, _⟩ := plan_ok n hn d hs b1 b2 b3 T ol oh hl hh p dp den h
  rw [e1, ← e2] at hp
  obtain ⟨_, g2, g3⟩ := plan_spec K p dp den
  obtain ⟨r1, r2, r3, r4⟩ := g2 hp
  exact ⟨r1, r2, r3, g3 r1 r2.1 r2.2 r3⟩
theorem cmp_ge (h : m34 n d b1 b2 b3 T ol oh hl hh = 0) (hp : (m38 n d b1 b2 b3 T ol oh hl hh p dp den).2 = 0) (W a b c e q : Int) :
    ((m71 n d b1 b2 b3 T ol oh hl hh p dp den W a b c e q).2 = 0 → 0 ≤ (m71 n d b1 b2 b3 T ol oh hl hh p dp den W a b c e q).1) ∧ (InW W a b c e q → (m71 n d b1 b2 b3 T ol oh hl hh p dp den W a b c e q).2 = 0) := by
  have K := askK_of (rightK_of hn hs h)
  obtain ⟨a1, a2, a3⟩ := task_good n hn d hs b1 b2 b3 T ol oh hl hh h
  obtain ⟨w1, w2, w3, w4⟩ := weights_both W a b c e q
  obtain ⟨rfl, hden, hpl, h97⟩ := plan_is n hn d hs b1 b2 b3 T ol oh hl hh p dp den h hp
  have hcs := cost_small K hden hpl
  have h97' := h97
  unfold askD at h97'
  cases hw : m98 W a b c e q
  · refine ⟨fun h0 => ?_, fun h0 => ?_⟩
    · simp only [m71, a1, a3, cond_false, h97', hw] at h0
      exfalso
      have h0 : (2 : Int) = 0 := h0
      omega
    · rw [m98_in h0] at hw; cases hw
  · obtain ⟨i1, i2, i3, i4, i5, i6⟩ := w4 hw
    have hv := (value_le K (times := 1) (.inr rfl) i1 i2 i3 i4 i5 i6).1
    have hmx := value_i64 K W a b c e q 1
    rw [Int.one_mul] at hv
    have hwk := (lpOf (askD p d b1 b2 b3 T ol oh hl hh)).weak hpl W (a - b) (c - e) q
    generalize hC : (lpOf (askD p d b1 b2 b3 T ol oh hl hh)).cost (xOf p d dp) = C at *
    generalize hV : m99 (askD p d b1 b2 b3 T ol oh hl hh) W a b c e q 1 = V at *
    obtain ⟨v1, v2⟩ := compare_prog (n := C) (d := den) (m := V) (k := q) hcs.1 (by omega) (by omega) (by omega) (by omega) hcs.2 hmx
    have hle : V * den ≤ C * q := by
      have := Int.mul_le_mul_of_nonneg_left hv (show 0 ≤ den by omega)
      have e1 : V * den = den * V := Int.mul_comm _ _
      have e2 : C * q = q * C := Int.mul_comm _ _
      omega
    have hsg : 0 ≤ sgn (C * q - V * den) := by
      unfold sgn; split <;> (try split) <;> omega
    have hV' := hV
    have h98 := h97
    unfold askD at hV' h98
    have e : m71 p d b1 b2 b3 T ol oh hl hh p dp den W a b c e q = (sgn (C * q - V * den), 0) := by
      simp only [m71, a1, a3, cond_false, h98, hw, hV', v2]
      rfl
    rw [e]
    exact ⟨fun _ => hsg, fun _ => rfl⟩
end
end Go.Proofs.Ytmndejpcpfkajaa

/-
  The law of plans: ends, points, mean depth, fastest ascent: plain law. Conditions: none.
-/
import Derived.Test.YtchhhoamnagbfaaDoorCPPlan
namespace Go.Proofs.YtchhhoamnagbfaaDoor
open Go Go.Sy
set_option linter.unusedVariables false
set_option linter.unusedSimpArgs false
set_option maxRecDepth 100000
theorem floorW {a b : Int} (hb : 0 < b) (hb2 : b ≤ 1000000000) (h0 : -1000000000000000 ≤ a) (h1 : a ≤ 1000000000000000) : m91 a b = a / b := by
  by_cases ha : 0 ≤ a
  · have q0 := Int.ediv_nonneg ha (show 0 ≤ b by omega)
    have q1 := Int.ediv_le_self b ha
    have hm : ¬ a.tmod b < 0 := by have := Int.tmod_nonneg b ha; omega
    simp only [m91, decide_eq_false hm, cond_false, Int.tdiv_eq_ediv_of_nonneg ha]
    exact wr (by omega) (by omega)
  · obtain ⟨c, rfl⟩ : ∃ c, a = -c := ⟨-a, by omega⟩
    have hc : 0 ≤ c := by omega
    have q0 := Int.ediv_nonneg hc (show 0 ≤ b by omega)
    have q1 := Int.ediv_le_self b hc
    have e := Int.mul_ediv_add_emod c b
    have r0 := Int.emod_nonneg c (show b ≠ 0 by omega)
    have r1 := Int.emod_lt_of_pos c hb
    simp only [m91, Int.neg_tdiv, Int.neg_tmod, Int.tdiv_eq_ediv_of_nonneg hc, Int.tmod_eq_emod_of_nonneg hc]
    by_cases hr : c % b = 0
    · rw [hr] at e ⊢
      simp only [Int.neg_zero, Int.lt_irrefl, decide_false, cond_false]
      rw [wr (by omega) (by omega)]
      refine (((Int.ediv_emod_unique (r := 0) hb).2 ⟨?_, by omega, hb⟩).1).symm
      rw [Int.mul_neg]; omega
    · simp only [decide_eq_true (show -(c % b) < 0 by omega), cond_true]
      rw [wr (n := -(c / b)) (by omega) (by omega), wr (by omega) (by omega)]
      refine (((Int.ediv_emod_unique (r := b - c % b) hb).2 ⟨?_, by omega, by omega⟩).1).symm
      rw [Int.mul_sub, Int.mul_neg]; omega
theorem roundW {X W : Int} (hX : 0 ≤ X ∧ X ≤ 100000000000000) (hW : 1 ≤ W ∧ W ≤ 1000000000) : m54 X W = m56 X W := by
  have q0 := Int.ediv_nonneg hX.1 (show 0 ≤ W by omega)
  have q1 := Int.ediv_le_self W hX.1
  have q2 := Int.ediv_nonneg (show 0 ≤ X + W - 1 by omega) (show 0 ≤ W by omega)
  have q3 := Int.ediv_le_self W (show 0 ≤ X + W - 1 by omega)
  have e54 : m54 X W = (X / W, (X + W - 1) / W) := by
    simp only [m54]
    rw [wr (n := X + W) (by omega) (by omega), wr (n := X + W - 1) (by omega) (by omega), Int.tdiv_eq_ediv_of_nonneg hX.1, Int.tdiv_eq_ediv_of_nonneg (by omega), wr (n := X / W) (by omega) (by omega), wr (n := (X + W - 1) / W) (by omega) (by omega)]
  have c := ceil_eq (X := X) (show 0 < W by omega)
  rw [e54]
  simp only [m56, m92]
  rw [wr (n := 0 - X) (by omega) (by omega), show (0 : Int) - X = -X from Int.zero_sub X, floorW (by omega) (by omega) (by omega) (by omega), floorW (by omega) (by omega) (by omega) (by omega), Int.zero_sub, ← c, wr (by omega) (by omega)]
theorem round_ne {X W : Int} (hW : W ≠ 0) : n54 X W = true ∧ n56 X W = true := by
  simp only [n54, n56, n91, n92, decide_eq_false hW]; exact ⟨rfl, rfl⟩
section
variable {a : ByteArray} {b : Int} {ng : Nat} {g : Dat} {L : Nat} {e : Dat}
theorem Pln.small (P : Pln a b ng g L e) : a.size ≤ 12 := by
  have h := P.name
  simp only [m64] at h
  by_cases hs : 12 < (a.size : Int)
  · rw [decide_eq_true hs] at h
    revert h; cases decide ((a.size : Int) < 1) <;> intro h <;> cases h
  · omega
end
end Go.Proofs.YtchhhoamnagbfaaDoor

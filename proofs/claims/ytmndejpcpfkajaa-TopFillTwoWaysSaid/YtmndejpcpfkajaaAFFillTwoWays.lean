/-
  The row of 'TopFillTwoWays': from the law's contract to the row's form. Conditions: that the law's model is true, and its need.
-/
import Derived.Test.YtmndejpcpfkajaaASyX
import Derived.Test.YtmndejpcpfkajaaRows
import Derived.WalkKit
import Derived.ProofKit
import Derived.OpenShut
import Derived.Lib.SmallJoins
import Derived.Test.YtmndejpcpfkajaaA6
namespace Go.Proofs.Ytmndejpcpfkajaa
open Go Go.Sy Go.ChangeShapes Go.WideShapes Go.ChangeAt Go.RowKit Go.Joins Go.Deep
set_option linter.unusedVariables false
set_option maxRecDepth 100000
theorem ownTopFillTwoWays : ownKnob Try.prog.godebug = none := by kernel_rfl
theorem overTopFillTwoWays (hall : ∀ (a0_0 : Int) (a0_1 : Int) (a0_2 : Int) (a1_0 : Int) (a1_1 : Int) (a1_2 : Int) (a1_3 : Int) (a1_4 : Int) (a2_0 : Int) (a2_1 : Int) (a2_2 : Int), (Lit.int .i64 a0_0).wf = true → (Lit.int .i64 a0_1).wf = true → (Lit.int .i64 a0_2).wf = true → (Lit.int .i64 a1_0).wf = true → (Lit.int .i64 a1_1).wf = true → (Lit.int .i64 a1_2).wf = true → (Lit.int .i64 a1_3).wf = true → (Lit.int .i64 a1_4).wf = true → (Lit.int .i64 a2_0).wf = true → (Lit.int .i64 a2_1).wf = true → (Lit.int .i64 a2_2).wf = true → n4 a0_0 a0_1 a0_2 a1_0 a1_1 a1_2 a1_3 a1_4 a2_0 a2_1 a2_2 = true ∧ m4 a0_0 a0_1 a0_2 a1_0 a1_1 a1_2 a1_3 a1_4 a2_0 a2_1 a2_2 = true) : Rows.TopFillTwoWaysSaid :=
  OpenClaim.holds_of_wide 4 Try.f4 rfl rfl rfl rfl rfl rfl rfl ⟨rfl, rfl, rfl, rfl, rfl⟩ rfl rfl rfl rfl rfl (by kernel_rfl) Try.func4 (by kernel_rfl)
    (of_decide_eq_true (by kernel_rfl)) (by unfold Func.isWrapper; first | (rw [if_pos (by decide +kernel)]; kernel_rfl) | (rw [if_neg (by decide +kernel)]; exact ⟨rfl, rfl⟩))
    (fun os started H enc _ => law_frame (C := Try.checked) (s := Rows.topFillTwoWaysSpec) (tb := 4) (ss := [.a [.int .i64, .int .i64, .int .i64], .a [.int .i64, .int .i64, .int .i64, .int .i64, .int .i64], .a [.int .i64, .int .i64, .int .i64]]) ownTopFillTwoWays started (by kernel_rfl) Try.func4
      (ChangeSpec.witness6 (enc := enc) (C := Try.checked) false ⟨#[], #[.agg #[.int .i64 0, .int .i64 0, .int .i64 0], .agg #[.int .i64 0, .int .i64 0, .int .i64 0, .int .i64 0, .int .i64 0], .agg #[.int .i64 0, .int .i64 0, .int .i64 0]], []⟩ 8 (by kernel_rfl) (by kernel_rfl) (by kernel_rfl) (by kernel_rfl))
      rfl rfl Try.underlying4 (fun H ds h => match ds, h with | [d0, d1, d2], _ => rfl) (by kernel_rfl) k4 fun us hus => by
        obtain ⟨_, _, rfl, ⟨_, rfl, _, _, rfl, ⟨a0_0, rfl, wa0_0⟩, _, _, rfl, ⟨a0_1, rfl, wa0_1⟩, _, _, rfl, ⟨a0_2, rfl, wa0_2⟩, rfl⟩, _, _, rfl, ⟨_, rfl, _, _, rfl, ⟨a1_0, rfl, wa1_0⟩, _, _, rfl, ⟨a1_1, rfl, wa1_1⟩, _, _, rfl, ⟨a1_2, rfl, wa1_2⟩, _, _, rfl, ⟨a1_3, rfl, wa1_3⟩, _, _, rfl, ⟨a1_4, rfl, wa1_4⟩, rfl⟩, _, _, rfl, ⟨_, rfl, _, _, rfl, ⟨a2_0, rfl, wa2_0⟩, _, _, rfl, ⟨a2_1, rfl, wa2_1⟩, _, _, rfl, ⟨a2_2, rfl, wa2_2⟩, rfl⟩, rfl⟩ := hus
        obtain ⟨hn, hm⟩ := hall a0_0 a0_1 a0_2 a1_0 a1_1 a1_2 a1_3 a1_4 a2_0 a2_1 a2_2 wa0_0 wa0_1 wa0_2 wa1_0 wa1_1 wa1_2 wa1_3 wa1_4 wa2_0 wa2_1 wa2_2
        have e : c4 0 (memOf []) [.agg [.int .i64 a0_0, .int .i64 a0_1, .int .i64 a0_2], .agg [.int .i64 a1_0, .int .i64 a1_1, .int .i64 a1_2, .int .i64 a1_3, .int .i64 a1_4], .agg [.int .i64 a2_0, .int .i64 a2_1, .int .i64 a2_2]] = some { v := .bool (m4 a0_0 a0_1 a0_2 a1_0 a1_1 a1_2 a1_3 a1_4 a2_0 a2_1 a2_2), need := [n4 a0_0 a0_1 a0_2 a1_0 a1_1 a1_2 a1_3 a1_4 a2_0 a2_1 a2_2] } := by kernel_rfl
        rw [hm] at e
        exact ⟨_, e, by simp [hn]⟩)
end Go.Proofs.Ytmndejpcpfkajaa

/-
  The row of 'SiteAngles': from the law's contract to the row's form. Conditions: that the law's model is true, and its need.
-/
import Derived.Test.YtlaogoojkfjgoaaSyX
import Derived.Test.YtlaogoojkfjgoaaA1
import Derived.Test.YtlaogoojkfjgoaaA2
import Derived.Test.YtlaogoojkfjgoaaA3
import Derived.Test.YtlaogoojkfjgoaaRows
import Derived.WalkKit
import Derived.ProofKit
import Derived.OpenShut
import Derived.Lib.SmallJoins
namespace Go.Proofs.Ytlaogoojkfjgoaa
open Go Go.Sy Go.ChangeShapes Go.WideShapes Go.ChangeAt Go.RowKit Go.Joins Go.Deep
set_option linter.unusedVariables false
set_option maxRecDepth 100000
theorem ownSiteAngles : ownKnob Try.prog.godebug = none := by kernel_rfl
theorem overSiteAngles (hall : ∀ (a0_0 : Int) (a0_1 : Int) (a0_2 : Int) (a1 : Int), (Lit.int .i64 a0_0).wf = true → (Lit.int .i64 a0_1).wf = true → (Lit.int .i64 a0_2).wf = true → (Lit.int .i64 a1).wf = true → n8 a0_0 a0_1 a0_2 a1 = true ∧ m8 a0_0 a0_1 a0_2 a1 = true) : Rows.SiteAnglesSaid :=
  OpenClaim.holds_of_wide 8 Try.f8 rfl rfl rfl rfl rfl rfl rfl ⟨rfl, rfl, rfl, rfl, rfl⟩ rfl rfl rfl rfl rfl (by kernel_rfl) Try.func8 (by kernel_rfl)
    (of_decide_eq_true (by kernel_rfl)) (by unfold Func.isWrapper; first | (rw [if_pos (by decide +kernel)]; kernel_rfl) | (rw [if_neg (by decide +kernel)]; exact ⟨rfl, rfl⟩))
    (fun os started H enc _ => law_frame (C := Try.checked) (s := Rows.siteAnglesSpec) (tb := 4) (ss := [.a [.int .i64, .int .i64, .int .i64], .c (.int .i64)]) ownSiteAngles started (by kernel_rfl) Try.func8
      (ChangeSpec.witness6 (enc := enc) (C := Try.checked) false ⟨#[], #[.agg #[.int .i64 0, .int .i64 0, .int .i64 0], .int .i64 0], []⟩ 8 (by kernel_rfl) (by kernel_rfl) (by kernel_rfl) (by kernel_rfl))
      rfl rfl Try.underlying4 (fun H ds h => match ds, h with | [d0, d1], _ => rfl) (by kernel_rfl) k8 fun us hus => by
        obtain ⟨_, _, rfl, ⟨_, rfl, _, _, rfl, ⟨a0_0, rfl, wa0_0⟩, _, _, rfl, ⟨a0_1, rfl, wa0_1⟩, _, _, rfl, ⟨a0_2, rfl, wa0_2⟩, rfl⟩, _, _, rfl, ⟨a1, rfl, wa1⟩, rfl⟩ := hus
        obtain ⟨hn, hm⟩ := hall a0_0 a0_1 a0_2 a1 wa0_0 wa0_1 wa0_2 wa1
        have e : c8 0 (memOf []) [.agg [.int .i64 a0_0, .int .i64 a0_1, .int .i64 a0_2], .int .i64 a1] = some { v := .bool (m8 a0_0 a0_1 a0_2 a1), need := [n8 a0_0 a0_1 a0_2 a1] } := by kernel_rfl
        rw [hm] at e
        exact ⟨_, e, by simp [hn]⟩)
end Go.Proofs.Ytlaogoojkfjgoaa

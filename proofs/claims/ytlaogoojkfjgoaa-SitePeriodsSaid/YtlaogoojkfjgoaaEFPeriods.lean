/-
  The row of 'SitePeriods': from the law's contract to the row's form. Conditions: that the law's model is true, and its need.
-/
import Derived.Test.YtlaogoojkfjgoaaSyX
import Derived.Test.YtlaogoojkfjgoaaE1
import Derived.Test.YtlaogoojkfjgoaaE2
import Derived.Test.YtlaogoojkfjgoaaE3
import Derived.Test.YtlaogoojkfjgoaaE4
import Derived.Test.YtlaogoojkfjgoaaRows
import Derived.WalkKit
import Derived.ProofKit
import Derived.OpenShut
import Derived.Lib.SmallJoins
namespace Go.Proofs.Ytlaogoojkfjgoaa
open Go Go.Sy Go.ChangeShapes Go.WideShapes Go.ChangeAt Go.RowKit Go.Joins Go.Deep
set_option linter.unusedVariables false
set_option maxRecDepth 100000
theorem ownSitePeriods : ownKnob Try.prog.godebug = none := by kernel_rfl
theorem overSitePeriods (hall : ∀ (a0 : Int) (a1_0 : Int) (a1_1 : Int) (a1_2 : Int) (a2 : Int), (Lit.int .i64 a0).wf = true → (Lit.int .i64 a1_0).wf = true → (Lit.int .i64 a1_1).wf = true → (Lit.int .i64 a1_2).wf = true → (Lit.int .i64 a2).wf = true → n4 a0 a1_0 a1_1 a1_2 a2 = true ∧ m4 a0 a1_0 a1_1 a1_2 a2 = true) : Rows.SitePeriodsSaid :=
  OpenClaim.holds_of_wide 4 Try.f4 rfl rfl rfl rfl rfl rfl rfl ⟨rfl, rfl, rfl, rfl, rfl⟩ rfl rfl rfl rfl rfl (by kernel_rfl) Try.func4 (by kernel_rfl)
    (of_decide_eq_true (by kernel_rfl)) (by unfold Func.isWrapper; first | (rw [if_pos (by decide +kernel)]; kernel_rfl) | (rw [if_neg (by decide +kernel)]; exact ⟨rfl, rfl⟩))
    (fun os started H enc _ => law_frame (C := Try.checked) (s := Rows.sitePeriodsSpec) (tb := 4) (ss := [.c (.int .i64), .a [.int .i64, .int .i64, .int .i64], .c (.int .i64)]) ownSitePeriods started (by kernel_rfl) Try.func4
      (ChangeSpec.witness6 (enc := enc) (C := Try.checked) false ⟨#[], #[.int .i64 0, .agg #[.int .i64 0, .int .i64 0, .int .i64 0], .int .i64 0], []⟩ 8 (by kernel_rfl) (by kernel_rfl) (by kernel_rfl) (by kernel_rfl))
      rfl rfl Try.underlying4 (fun H ds h => match ds, h with | [d0, d1, d2], _ => rfl) (by kernel_rfl) k4 fun us hus => by
        obtain ⟨_, _, rfl, ⟨a0, rfl, wa0⟩, _, _, rfl, ⟨_, rfl, _, _, rfl, ⟨a1_0, rfl, wa1_0⟩, _, _, rfl, ⟨a1_1, rfl, wa1_1⟩, _, _, rfl, ⟨a1_2, rfl, wa1_2⟩, rfl⟩, _, _, rfl, ⟨a2, rfl, wa2⟩, rfl⟩ := hus
        obtain ⟨hn, hm⟩ := hall a0 a1_0 a1_1 a1_2 a2 wa0 wa1_0 wa1_1 wa1_2 wa2
        have e : c4 0 (memOf []) [.int .i64 a0, .agg [.int .i64 a1_0, .int .i64 a1_1, .int .i64 a1_2], .int .i64 a2] = some { v := .bool (m4 a0 a1_0 a1_1 a1_2 a2), need := [n4 a0 a1_0 a1_1 a1_2 a2] } := by kernel_rfl
        rw [hm] at e
        exact ⟨_, e, by simp [hn]⟩)
end Go.Proofs.Ytlaogoojkfjgoaa

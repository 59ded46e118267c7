/-
  The row of 'SiteCosines': from the law's contract to the row's form. Conditions: that the law's model is true, and its need.
-/
import Derived.Test.YtlaogoojkfjgoaaSyX
import Derived.Test.YtlaogoojkfjgoaaC1
import Derived.Test.YtlaogoojkfjgoaaC2
import Derived.Test.YtlaogoojkfjgoaaC3
import Derived.Test.YtlaogoojkfjgoaaC4
import Derived.Test.YtlaogoojkfjgoaaC5
import Derived.Test.YtlaogoojkfjgoaaRows
import Derived.WalkKit
import Derived.ProofKit
import Derived.OpenShut
import Derived.Lib.SmallJoins
namespace Go.Proofs.Ytlaogoojkfjgoaa
open Go Go.Sy Go.ChangeShapes Go.WideShapes Go.ChangeAt Go.RowKit Go.Joins Go.Deep
set_option linter.unusedVariables false
set_option maxRecDepth 100000
theorem ownSiteCosines : ownKnob Try.prog.godebug = none := by kernel_rfl
theorem overSiteCosines (hall : ∀ (a0 : Int), (Lit.int .i64 a0).wf = true → n7 a0 = true ∧ m7 a0 = true) : Rows.SiteCosinesSaid :=
  OpenClaim.holds_of_wide 7 Try.f7 rfl rfl rfl rfl rfl rfl rfl ⟨rfl, rfl, rfl, rfl, rfl⟩ rfl rfl rfl rfl rfl (by kernel_rfl) Try.func7 (by kernel_rfl)
    (of_decide_eq_true (by kernel_rfl)) (by unfold Func.isWrapper; first | (rw [if_pos (by decide +kernel)]; kernel_rfl) | (rw [if_neg (by decide +kernel)]; exact ⟨rfl, rfl⟩))
    (fun os started H enc _ => law_frame (C := Try.checked) (s := Rows.siteCosinesSpec) (tb := 4) (ss := [.c (.int .i64)]) ownSiteCosines started (by kernel_rfl) Try.func7
      (ChangeSpec.witness6 (enc := enc) (C := Try.checked) false ⟨#[], #[.int .i64 0], []⟩ 8 (by kernel_rfl) (by kernel_rfl) (by kernel_rfl) (by kernel_rfl))
      rfl rfl Try.underlying4 (fun H ds h => match ds, h with | [d0], _ => rfl) (by kernel_rfl) k7 fun us hus => by
        obtain ⟨_, _, rfl, ⟨a0, rfl, wa0⟩, rfl⟩ := hus
        obtain ⟨hn, hm⟩ := hall a0 wa0
        have e : c7 0 (memOf []) [.int .i64 a0] = some { v := .bool (m7 a0), need := [n7 a0] } := by kernel_rfl
        rw [hm] at e
        exact ⟨_, e, by simp [hn]⟩)
end Go.Proofs.Ytlaogoojkfjgoaa

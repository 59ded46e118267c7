/-
  The row of 'SiteSlack': from the law's contract to the row's form. Conditions: that the law's model is true, and its need.
-/
import Derived.Test.YtlaogoojkfjgoaaSyX
import Derived.Test.YtlaogoojkfjgoaaG1
import Derived.Test.YtlaogoojkfjgoaaG2
import Derived.Test.YtlaogoojkfjgoaaG3
import Derived.Test.YtlaogoojkfjgoaaG4
import Derived.Test.YtlaogoojkfjgoaaRows
import Derived.WalkKit
import Derived.ProofKit
import Derived.OpenShut
import Derived.Lib.SmallJoins
namespace Go.Proofs.Ytlaogoojkfjgoaa
open Go Go.Sy Go.ChangeShapes Go.WideShapes Go.ChangeAt Go.RowKit Go.Joins Go.Deep
set_option linter.unusedVariables false
set_option maxRecDepth 100000
theorem ownSiteSlack : ownKnob Try.prog.godebug = none := by kernel_rfl
theorem overSiteSlack (hall : ∀ (a0_0 : Int) (na0_1 : Nat) (da0_1 : Dat) (a1 : Int) (a2 : Int), (Lit.int .i64 a0_0).wf = true → na0_1 ≤ maxLen → (∀ q, q < na0_1 → Kd.sanL [.int .i64, .int .i64, .int .i64] da0_1 q 0) → (Lit.int .i64 a1).wf = true → (Lit.int .i64 a2).wf = true → n12 a0_0 na0_1 da0_1 a1 a2 = true ∧ m12 a0_0 na0_1 da0_1 a1 a2 = true) : Rows.SiteSlackSaid :=
  OpenClaim.holds_of_wide 12 Try.f12 rfl rfl rfl rfl rfl rfl rfl ⟨rfl, rfl, rfl, rfl, rfl⟩ rfl rfl rfl rfl rfl (by kernel_rfl) Try.func12 (by kernel_rfl)
    (of_decide_eq_true (by kernel_rfl)) (by unfold Func.isWrapper; first | (rw [if_pos (by decide +kernel)]; kernel_rfl) | (rw [if_neg (by decide +kernel)]; exact ⟨rfl, rfl⟩))
    (fun os started H enc _ => law_frame (C := Try.checked) (s := Rows.siteSlackSpec) (tb := 4) (ss := [.a [.int .i64, .sl [.int .i64, .int .i64, .int .i64]], .c (.int .i64), .c (.int .i64)]) ownSiteSlack started (by kernel_rfl) Try.func12
      (ChangeSpec.witness6 (enc := enc) (C := Try.checked) false ⟨#[], #[.agg #[.int .i64 0, .slice none 0 0], .int .i64 0, .int .i64 0], []⟩ 8 (by kernel_rfl) (by kernel_rfl) (by kernel_rfl) (by kernel_rfl))
      rfl rfl Try.underlying4 (fun H ds h => match ds, h with | [d0, d1, d2], _ => rfl) (by kernel_rfl) k12 fun us hus => by
        obtain ⟨_, _, rfl, ⟨_, rfl, _, _, rfl, ⟨a0_0, rfl, wa0_0⟩, _, _, rfl, ⟨na0_1, da0_1, rfl, wa0_1, ua0_1⟩, rfl⟩, _, _, rfl, ⟨a1, rfl, wa1⟩, _, _, rfl, ⟨a2, rfl, wa2⟩, rfl⟩ := hus
        obtain ⟨hn, hm⟩ := hall a0_0 na0_1 da0_1 a1 a2 wa0_0 wa0_1 ua0_1 wa1 wa2
        have e : c12 0 (memOf []) [.agg [.int .i64 a0_0, .ro [.int .i64, .int .i64, .int .i64] na0_1 da0_1], .int .i64 a1, .int .i64 a2] = some { v := .bool (m12 a0_0 na0_1 da0_1 a1 a2), need := [n12 a0_0 na0_1 da0_1 a1 a2] } := by kernel_rfl
        rw [hm] at e
        exact ⟨_, e, by simp [hn]⟩)
end Go.Proofs.Ytlaogoojkfjgoaa

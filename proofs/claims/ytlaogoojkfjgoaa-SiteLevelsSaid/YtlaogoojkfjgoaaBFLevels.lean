/-
  The row of 'SiteLevels': from the law's contract to the row's form. Conditions: that the law's model is true, and its need.
-/
import Derived.Test.YtlaogoojkfjgoaaSyX
import Derived.Test.YtlaogoojkfjgoaaB1
import Derived.Test.YtlaogoojkfjgoaaB2
import Derived.Test.YtlaogoojkfjgoaaB3
import Derived.Test.YtlaogoojkfjgoaaB4
import Derived.Test.YtlaogoojkfjgoaaRows
import Derived.WalkKit
import Derived.ProofKit
import Derived.OpenShut
import Derived.Lib.SmallJoins
namespace Go.Proofs.Ytlaogoojkfjgoaa
open Go Go.Sy Go.ChangeShapes Go.WideShapes Go.ChangeAt Go.RowKit Go.Joins Go.Deep
set_option linter.unusedVariables false
set_option maxRecDepth 100000
theorem ownSiteLevels : ownKnob Try.prog.godebug = none := by kernel_rfl
theorem overSiteLevels (hall : ∀ (a0_0 : Int) (na0_1 : Nat) (da0_1 : Dat) (a1 : Int), (Lit.int .i64 a0_0).wf = true → na0_1 ≤ maxLen → (∀ q, q < na0_1 → Kd.sanL [.int .i64, .int .i64, .int .i64] da0_1 q 0) → (Lit.int .i64 a1).wf = true → n3 a0_0 na0_1 da0_1 a1 = true ∧ m3 a0_0 na0_1 da0_1 a1 = true) : Rows.SiteLevelsSaid :=
  OpenClaim.holds_of_wide 3 Try.f3 rfl rfl rfl rfl rfl rfl rfl ⟨rfl, rfl, rfl, rfl, rfl⟩ rfl rfl rfl rfl rfl (by kernel_rfl) Try.func3 (by kernel_rfl)
    (of_decide_eq_true (by kernel_rfl)) (by unfold Func.isWrapper; first | (rw [if_pos (by decide +kernel)]; kernel_rfl) | (rw [if_neg (by decide +kernel)]; exact ⟨rfl, rfl⟩))
    (fun os started H enc _ => law_frame (C := Try.checked) (s := Rows.siteLevelsSpec) (tb := 4) (ss := [.a [.int .i64, .sl [.int .i64, .int .i64, .int .i64]], .c (.int .i64)]) ownSiteLevels started (by kernel_rfl) Try.func3
      (ChangeSpec.witness6 (enc := enc) (C := Try.checked) false ⟨#[], #[.agg #[.int .i64 0, .slice none 0 0], .int .i64 0], []⟩ 8 (by kernel_rfl) (by kernel_rfl) (by kernel_rfl) (by kernel_rfl))
      rfl rfl Try.underlying4 (fun H ds h => match ds, h with | [d0, d1], _ => rfl) (by kernel_rfl) k3 fun us hus => by
        obtain ⟨_, _, rfl, ⟨_, rfl, _, _, rfl, ⟨a0_0, rfl, wa0_0⟩, _, _, rfl, ⟨na0_1, da0_1, rfl, wa0_1, ua0_1⟩, rfl⟩, _, _, rfl, ⟨a1, rfl, wa1⟩, rfl⟩ := hus
        obtain ⟨hn, hm⟩ := hall a0_0 na0_1 da0_1 a1 wa0_0 wa0_1 ua0_1 wa1
        have e : c3 0 (memOf []) [.agg [.int .i64 a0_0, .ro [.int .i64, .int .i64, .int .i64] na0_1 da0_1], .int .i64 a1] = some { v := .bool (m3 a0_0 na0_1 da0_1 a1), need := [n3 a0_0 na0_1 da0_1 a1] } := by kernel_rfl
        rw [hm] at e
        exact ⟨_, e, by simp [hn]⟩)
end Go.Proofs.Ytlaogoojkfjgoaa

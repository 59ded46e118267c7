/-
  The row of 'SiteSurely': from the law's contract to the row's form. Conditions: that the law's model is true, and its need.
-/
import Derived.Test.YtlaogoojkfjgoaaSyX
import Derived.Test.YtlaogoojkfjgoaaK1
import Derived.Test.YtlaogoojkfjgoaaK2
import Derived.Test.YtlaogoojkfjgoaaK3
import Derived.Test.YtlaogoojkfjgoaaK4
import Derived.Test.YtlaogoojkfjgoaaK5
import Derived.Test.YtlaogoojkfjgoaaRows
import Derived.WalkKit
import Derived.ProofKit
import Derived.OpenShut
import Derived.Lib.SmallJoins
namespace Go.Proofs.Ytlaogoojkfjgoaa
open Go Go.Sy Go.ChangeShapes Go.WideShapes Go.ChangeAt Go.RowKit Go.Joins Go.Deep
set_option linter.unusedVariables false
set_option maxRecDepth 100000
theorem ownSiteSurely : ownKnob Try.prog.godebug = none := by kernel_rfl
theorem overSiteSurely (hall : ∀ (a0_0 : Int) (na0_1 : Nat) (da0_1 : Dat) (a1_0 : Int) (a1_1 : Int) (a1_2 : Int) (a1_3 : Bool) (a2 : Int), (Lit.int .i64 a0_0).wf = true → na0_1 ≤ maxLen → (∀ q, q < na0_1 → Kd.sanL [.int .i64, .int .i64, .int .i64] da0_1 q 0) → (Lit.int .i64 a1_0).wf = true → (Lit.int .i64 a1_1).wf = true → (Lit.int .i64 a1_2).wf = true → (Lit.int .i64 a2).wf = true → n13 a0_0 na0_1 da0_1 a1_0 a1_1 a1_2 a1_3 a2 = true ∧ m13 a0_0 na0_1 da0_1 a1_0 a1_1 a1_2 a1_3 a2 = true) : Rows.SiteSurelySaid :=
  OpenClaim.holds_of_wide 13 Try.f13 rfl rfl rfl rfl rfl rfl rfl ⟨rfl, rfl, rfl, rfl, rfl⟩ rfl rfl rfl rfl rfl (by kernel_rfl) Try.func13 (by kernel_rfl)
    (of_decide_eq_true (by kernel_rfl)) (by unfold Func.isWrapper; first | (rw [if_pos (by decide +kernel)]; kernel_rfl) | (rw [if_neg (by decide +kernel)]; exact ⟨rfl, rfl⟩))
    (fun os started H enc _ => law_frame (C := Try.checked) (s := Rows.siteSurelySpec) (tb := 4) (ss := [.a [.int .i64, .sl [.int .i64, .int .i64, .int .i64]], .a [.int .i64, .int .i64, .int .i64, .bool], .c (.int .i64)]) ownSiteSurely started (by kernel_rfl) Try.func13
      (ChangeSpec.witness6 (enc := enc) (C := Try.checked) false ⟨#[], #[.agg #[.int .i64 0, .slice none 0 0], .agg #[.int .i64 0, .int .i64 0, .int .i64 0, .bool false], .int .i64 0], []⟩ 8 (by kernel_rfl) (by kernel_rfl) (by kernel_rfl) (by kernel_rfl))
      rfl rfl Try.underlying4 (fun H ds h => match ds, h with | [d0, d1, d2], _ => rfl) (by kernel_rfl) k13 fun us hus => by
        obtain ⟨_, _, rfl, ⟨_, rfl, _, _, rfl, ⟨a0_0, rfl, wa0_0⟩, _, _, rfl, ⟨na0_1, da0_1, rfl, wa0_1, ua0_1⟩, rfl⟩, _, _, rfl, ⟨_, rfl, _, _, rfl, ⟨a1_0, rfl, wa1_0⟩, _, _, rfl, ⟨a1_1, rfl, wa1_1⟩, _, _, rfl, ⟨a1_2, rfl, wa1_2⟩, _, _, rfl, ⟨a1_3, rfl⟩, rfl⟩, _, _, rfl, ⟨a2, rfl, wa2⟩, rfl⟩ := hus
        obtain ⟨hn, hm⟩ := hall a0_0 na0_1 da0_1 a1_0 a1_1 a1_2 a1_3 a2 wa0_0 wa0_1 ua0_1 wa1_0 wa1_1 wa1_2 wa2
        have e : c13 0 (memOf []) [.agg [.int .i64 a0_0, .ro [.int .i64, .int .i64, .int .i64] na0_1 da0_1], .agg [.int .i64 a1_0, .int .i64 a1_1, .int .i64 a1_2, .bool a1_3], .int .i64 a2] = some { v := .bool (m13 a0_0 na0_1 da0_1 a1_0 a1_1 a1_2 a1_3 a2), need := [n13 a0_0 na0_1 da0_1 a1_0 a1_1 a1_2 a1_3 a2] } := by kernel_rfl
        rw [hm] at e
        exact ⟨_, e, by simp [hn]⟩)
end Go.Proofs.Ytlaogoojkfjgoaa

/-
  The row of 'SiteSlackWindows': from the law's contract to the row's form. Conditions: that the law's model is true, and its need.
-/
import Derived.Test.YtlaogoojkfjgoaaSyX
import Derived.Test.YtlaogoojkfjgoaaH1
import Derived.Test.YtlaogoojkfjgoaaH2
import Derived.Test.YtlaogoojkfjgoaaH3
import Derived.Test.YtlaogoojkfjgoaaH4
import Derived.Test.YtlaogoojkfjgoaaH5
import Derived.Test.YtlaogoojkfjgoaaRows
import Derived.WalkKit
import Derived.ProofKit
import Derived.OpenShut
import Derived.Lib.SmallJoins
namespace Go.Proofs.Ytlaogoojkfjgoaa
open Go Go.Sy Go.ChangeShapes Go.WideShapes Go.ChangeAt Go.RowKit Go.Joins Go.Deep
set_option linter.unusedVariables false
set_option maxRecDepth 100000
theorem ownSiteSlackWindows : ownKnob Try.prog.godebug = none := by kernel_rfl
theorem overSiteSlackWindows (hall : ∀ (a0_0 : Int) (na0_1 : Nat) (da0_1 : Dat) (a1_0 : Int) (a1_1 : Int) (a1_2 : Int) (a1_3 : Bool), (Lit.int .i64 a0_0).wf = true → na0_1 ≤ maxLen → (∀ q, q < na0_1 → Kd.sanL [.int .i64, .int .i64, .int .i64] da0_1 q 0) → (Lit.int .i64 a1_0).wf = true → (Lit.int .i64 a1_1).wf = true → (Lit.int .i64 a1_2).wf = true → n15 a0_0 na0_1 da0_1 a1_0 a1_1 a1_2 a1_3 = true ∧ m15 a0_0 na0_1 da0_1 a1_0 a1_1 a1_2 a1_3 = true) : Rows.SiteSlackWindowsSaid :=
  OpenClaim.holds_of_wide 15 Try.f15 rfl rfl rfl rfl rfl rfl rfl ⟨rfl, rfl, rfl, rfl, rfl⟩ rfl rfl rfl rfl rfl (by kernel_rfl) Try.func15 (by kernel_rfl)
    (of_decide_eq_true (by kernel_rfl)) (by unfold Func.isWrapper; first | (rw [if_pos (by decide +kernel)]; kernel_rfl) | (rw [if_neg (by decide +kernel)]; exact ⟨rfl, rfl⟩))
    (fun os started H enc _ => law_frame (C := Try.checked) (s := Rows.siteSlackWindowsSpec) (tb := 4) (ss := [.a [.int .i64, .sl [.int .i64, .int .i64, .int .i64]], .a [.int .i64, .int .i64, .int .i64, .bool]]) ownSiteSlackWindows started (by kernel_rfl) Try.func15
      (ChangeSpec.witness6 (enc := enc) (C := Try.checked) false ⟨#[], #[.agg #[.int .i64 0, .slice none 0 0], .agg #[.int .i64 0, .int .i64 0, .int .i64 0, .bool false]], []⟩ 8 (by kernel_rfl) (by kernel_rfl) (by kernel_rfl) (by kernel_rfl))
      rfl rfl Try.underlying4 (fun H ds h => match ds, h with | [d0, d1], _ => rfl) (by kernel_rfl) k15 fun us hus => by
        obtain ⟨_, _, rfl, ⟨_, rfl, _, _, rfl, ⟨a0_0, rfl, wa0_0⟩, _, _, rfl, ⟨na0_1, da0_1, rfl, wa0_1, ua0_1⟩, rfl⟩, _, _, rfl, ⟨_, rfl, _, _, rfl, ⟨a1_0, rfl, wa1_0⟩, _, _, rfl, ⟨a1_1, rfl, wa1_1⟩, _, _, rfl, ⟨a1_2, rfl, wa1_2⟩, _, _, rfl, ⟨a1_3, rfl⟩, rfl⟩, rfl⟩ := hus
        obtain ⟨hn, hm⟩ := hall a0_0 na0_1 da0_1 a1_0 a1_1 a1_2 a1_3 wa0_0 wa0_1 ua0_1 wa1_0 wa1_1 wa1_2
        have e : c15 0 (memOf []) [.agg [.int .i64 a0_0, .ro [.int .i64, .int .i64, .int .i64] na0_1 da0_1], .agg [.int .i64 a1_0, .int .i64 a1_1, .int .i64 a1_2, .bool a1_3]] = some { v := .bool (m15 a0_0 na0_1 da0_1 a1_0 a1_1 a1_2 a1_3), need := [n15 a0_0 na0_1 da0_1 a1_0 a1_1 a1_2 a1_3] } := by kernel_rfl
        rw [hm] at e
        exact ⟨_, e, by simp [hn]⟩)
end Go.Proofs.Ytlaogoojkfjgoaa

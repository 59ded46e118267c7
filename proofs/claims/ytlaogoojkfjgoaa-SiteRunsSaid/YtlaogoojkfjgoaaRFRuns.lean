/-
  The row of 'SiteRuns': from the law's contract to the row's form. Conditions: that the law's model is true, and its need.
-/
import Derived.Test.YtlaogoojkfjgoaaSyX
import Derived.Test.YtlaogoojkfjgoaaR1
import Derived.Test.YtlaogoojkfjgoaaR2
import Derived.Test.YtlaogoojkfjgoaaR3
import Derived.Test.YtlaogoojkfjgoaaR4
import Derived.Test.YtlaogoojkfjgoaaRows
import Derived.WalkKit
import Derived.ProofKit
import Derived.OpenShut
import Derived.Lib.SmallJoins
namespace Go.Proofs.Ytlaogoojkfjgoaa
open Go Go.Sy Go.ChangeShapes Go.WideShapes Go.ChangeAt Go.RowKit Go.Joins Go.Deep
set_option linter.unusedVariables false
set_option maxRecDepth 100000
theorem ownSiteRuns : ownKnob Try.prog.godebug = none := by kernel_rfl
theorem overSiteRuns (hall : ∀ (na0_0 : Nat) (da0_0 : Dat) (na0_1 : Nat) (da0_1 : Dat) (a1_0 : Int) (na1_1 : Nat) (da1_1 : Dat) (na1_2 : Nat) (da1_2 : Dat) (na2 : Nat) (da2 : Dat), na0_0 ≤ maxLen → (∀ q, q < na0_0 → Kd.sanL [.str] da0_0 q 0) → na0_1 ≤ maxLen → (∀ q, q < na0_1 → Kd.sanL [.sl [.int .i64]] da0_1 q 0) → (Lit.int .i64 a1_0).wf = true → na1_1 ≤ maxLen → (∀ q, q < na1_1 → Kd.sanL [.int .i64] da1_1 q 0) → na1_2 ≤ maxLen → (∀ q, q < na1_2 → Kd.sanL [.int .i64] da1_2 q 0) → na2 ≤ maxLen → (∀ q, q < na2 → Kd.sanL [.sl [.int .i64, .int .i64]] da2 q 0) → n11 na0_0 da0_0 na0_1 da0_1 a1_0 na1_1 da1_1 na1_2 da1_2 na2 da2 = true ∧ m11 na0_0 da0_0 na0_1 da0_1 a1_0 na1_1 da1_1 na1_2 da1_2 na2 da2 = true) : Rows.SiteRunsSaid :=
  OpenClaim.holds_of_wide 11 Try.f11 rfl rfl rfl rfl rfl rfl rfl ⟨rfl, rfl, rfl, rfl, rfl⟩ rfl rfl rfl rfl rfl (by kernel_rfl) Try.func11 (by kernel_rfl)
    (of_decide_eq_true (by kernel_rfl)) (by unfold Func.isWrapper; first | (rw [if_pos (by decide +kernel)]; kernel_rfl) | (rw [if_neg (by decide +kernel)]; exact ⟨rfl, rfl⟩))
    (fun os started H enc _ => law_frame (C := Try.checked) (s := Rows.siteRunsSpec) (tb := 4) (ss := [.a [.sl [.str], .sl [.sl [.int .i64]]], .a [.int .i64, .sl [.int .i64], .sl [.int .i64]], .c (.sl [.sl [.int .i64, .int .i64]])]) ownSiteRuns started (by kernel_rfl) Try.func11
      (ChangeSpec.witness6 (enc := enc) (C := Try.checked) false ⟨#[], #[.agg #[.slice none 0 0, .slice none 0 0], .agg #[.int .i64 0, .slice none 0 0, .slice none 0 0], .slice none 0 0], []⟩ 8 (by kernel_rfl) (by kernel_rfl) (by kernel_rfl) (by kernel_rfl))
      rfl rfl Try.underlying4 (fun H ds h => match ds, h with | [d0, d1, d2], _ => rfl) (by kernel_rfl) k11 fun us hus => by
        obtain ⟨_, _, rfl, ⟨_, rfl, _, _, rfl, ⟨na0_0, da0_0, rfl, wa0_0, ua0_0⟩, _, _, rfl, ⟨na0_1, da0_1, rfl, wa0_1, ua0_1⟩, rfl⟩, _, _, rfl, ⟨_, rfl, _, _, rfl, ⟨a1_0, rfl, wa1_0⟩, _, _, rfl, ⟨na1_1, da1_1, rfl, wa1_1, ua1_1⟩, _, _, rfl, ⟨na1_2, da1_2, rfl, wa1_2, ua1_2⟩, rfl⟩, _, _, rfl, ⟨na2, da2, rfl, wa2, ua2⟩, rfl⟩ := hus
        obtain ⟨hn, hm⟩ := hall na0_0 da0_0 na0_1 da0_1 a1_0 na1_1 da1_1 na1_2 da1_2 na2 da2 wa0_0 ua0_0 wa0_1 ua0_1 wa1_0 wa1_1 ua1_1 wa1_2 ua1_2 wa2 ua2
        have e : c11 0 (memOf []) [.agg [.ro [.str] na0_0 da0_0, .ro [.sl [.int .i64]] na0_1 da0_1], .agg [.int .i64 a1_0, .ro [.int .i64] na1_1 da1_1, .ro [.int .i64] na1_2 da1_2], .ro [.sl [.int .i64, .int .i64]] na2 da2] = some { v := .bool (m11 na0_0 da0_0 na0_1 da0_1 a1_0 na1_1 da1_1 na1_2 da1_2 na2 da2), need := [n11 na0_0 da0_0 na0_1 da0_1 a1_0 na1_1 da1_1 na1_2 da1_2 na2 da2] } := by kernel_rfl
        rw [hm] at e
        exact ⟨_, e, by simp [hn]⟩)
end Go.Proofs.Ytlaogoojkfjgoaa

/-
  The row of 'SiteWindows': from the law's contract to the row's form. Conditions: that the law's model is true, and its need.
-/
import Derived.Test.YtlaogoojkfjgoaaBSyX
import Derived.Test.YtlaogoojkfjgoaaRows
import Derived.WalkKit
import Derived.ProofKit
import Derived.OpenShut
import Derived.Lib.SmallJoins
import Derived.Test.YtlaogoojkfjgoaaBE17
namespace Go.Proofs.Ytlaogoojkfjgoaa
open Go Go.Sy Go.ChangeShapes Go.WideShapes Go.ChangeAt Go.RowKit Go.Joins Go.Deep
set_option linter.unusedVariables false
set_option maxRecDepth 100000
theorem ownSiteWindows : ownKnob Try.prog.godebug = none := by kernel_rfl
theorem overSiteWindows (hall : ∀ (na0 : Nat) (da0 : Dat) (na1 : Nat) (da1 : Dat), na0 ≤ maxLen → (∀ q, q < na0 → Kd.sanL [.int .i64, .int .i64] da0 q 0) → na1 ≤ maxLen → (∀ q, q < na1 → Kd.sanL [.int .i64, .int .i64] da1 q 0) → n9 na0 da0 na1 da1 = true ∧ m9 na0 da0 na1 da1 = true) : Rows.SiteWindowsSaid :=
  OpenClaim.holds_of_wide 9 Try.f9 rfl rfl rfl rfl rfl rfl rfl ⟨rfl, rfl, rfl, rfl, rfl⟩ rfl rfl rfl rfl rfl (by kernel_rfl) Try.func9 (by kernel_rfl)
    (of_decide_eq_true (by kernel_rfl)) (by unfold Func.isWrapper; first | (rw [if_pos (by decide +kernel)]; kernel_rfl) | (rw [if_neg (by decide +kernel)]; exact ⟨rfl, rfl⟩))
    (fun os started H enc _ => law_frame (C := Try.checked) (s := Rows.siteWindowsSpec) (tb := 4) (ss := [.c (.sl [.int .i64, .int .i64]), .c (.sl [.int .i64, .int .i64])]) ownSiteWindows started (by kernel_rfl) Try.func9
      (ChangeSpec.witness6 (enc := enc) (C := Try.checked) false ⟨#[], #[.slice none 0 0, .slice none 0 0], []⟩ 8 (by kernel_rfl) (by kernel_rfl) (by kernel_rfl) (by kernel_rfl))
      rfl rfl Try.underlying4 (fun H ds h => match ds, h with | [d0, d1], _ => rfl) (by kernel_rfl) k9 fun us hus => by
        obtain ⟨_, _, rfl, ⟨na0, da0, rfl, wa0, ua0⟩, _, _, rfl, ⟨na1, da1, rfl, wa1, ua1⟩, rfl⟩ := hus
        obtain ⟨hn, hm⟩ := hall na0 da0 na1 da1 wa0 ua0 wa1 ua1
        have e : c9 0 (memOf []) [.ro [.int .i64, .int .i64] na0 da0, .ro [.int .i64, .int .i64] na1 da1] = some { v := .bool (m9 na0 da0 na1 da1), need := [n9 na0 da0 na1 da1] } := by kernel_rfl
        rw [hm] at e
        exact ⟨_, e, by simp [hn]⟩)
end Go.Proofs.Ytlaogoojkfjgoaa

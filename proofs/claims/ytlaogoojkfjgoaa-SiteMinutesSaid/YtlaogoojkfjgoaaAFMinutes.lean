/-
  The row of 'SiteMinutes': from the law's contract to the row's form. Conditions: that the law's model is true, and its need.
-/
import Derived.Test.YtlaogoojkfjgoaaASyX
import Derived.Test.YtlaogoojkfjgoaaRows
import Derived.WalkKit
import Derived.ProofKit
import Derived.OpenShut
import Derived.Lib.SmallJoins
import Derived.Test.YtlaogoojkfjgoaaAE17
namespace Go.Proofs.Ytlaogoojkfjgoaa
open Go Go.Sy Go.ChangeShapes Go.WideShapes Go.ChangeAt Go.RowKit Go.Joins Go.Deep
set_option linter.unusedVariables false
set_option maxRecDepth 100000
theorem ownSiteMinutes : ownKnob Try.prog.godebug = none := by kernel_rfl
theorem overSiteMinutes (hall : ∀ (na0 : Nat) (da0 : Dat) (na1 : Nat) (da1 : Dat) (a2 : Int), na0 ≤ maxLen → (∀ q, q < na0 → Kd.sanL [.int .i64, .int .i64] da0 q 0) → na1 ≤ maxLen → (∀ q, q < na1 → Kd.sanL [.int .i64, .int .i64] da1 q 0) → (Lit.int .i64 a2).wf = true → n10 na0 da0 na1 da1 a2 = true ∧ m10 na0 da0 na1 da1 a2 = true) : Rows.SiteMinutesSaid :=
  OpenClaim.holds_of_wide 10 Try.f10 rfl rfl rfl rfl rfl rfl rfl ⟨rfl, rfl, rfl, rfl, rfl⟩ rfl rfl rfl rfl rfl (by kernel_rfl) Try.func10 (by kernel_rfl)
    (of_decide_eq_true (by kernel_rfl)) (by unfold Func.isWrapper; first | (rw [if_pos (by decide +kernel)]; kernel_rfl) | (rw [if_neg (by decide +kernel)]; exact ⟨rfl, rfl⟩))
    (fun os started H enc _ => law_frame (C := Try.checked) (s := Rows.siteMinutesSpec) (tb := 4) (ss := [.c (.sl [.int .i64, .int .i64]), .c (.sl [.int .i64, .int .i64]), .c (.int .i64)]) ownSiteMinutes started (by kernel_rfl) Try.func10
      (ChangeSpec.witness6 (enc := enc) (C := Try.checked) false ⟨#[], #[.slice none 0 0, .slice none 0 0, .int .i64 0], []⟩ 8 (by kernel_rfl) (by kernel_rfl) (by kernel_rfl) (by kernel_rfl))
      rfl rfl Try.underlying4 (fun H ds h => match ds, h with | [d0, d1, d2], _ => rfl) (by kernel_rfl) k10 fun us hus => by
        obtain ⟨_, _, rfl, ⟨na0, da0, rfl, wa0, ua0⟩, _, _, rfl, ⟨na1, da1, rfl, wa1, ua1⟩, _, _, rfl, ⟨a2, rfl, wa2⟩, rfl⟩ := hus
        obtain ⟨hn, hm⟩ := hall na0 da0 na1 da1 a2 wa0 ua0 wa1 ua1 wa2
        have e : c10 0 (memOf []) [.ro [.int .i64, .int .i64] na0 da0, .ro [.int .i64, .int .i64] na1 da1, .int .i64 a2] = some { v := .bool (m10 na0 da0 na1 da1 a2), need := [n10 na0 da0 na1 da1 a2] } := by kernel_rfl
        rw [hm] at e
        exact ⟨_, e, by simp [hn]⟩)
end Go.Proofs.Ytlaogoojkfjgoaa

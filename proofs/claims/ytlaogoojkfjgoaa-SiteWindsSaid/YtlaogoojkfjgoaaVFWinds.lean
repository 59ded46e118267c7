/-
  The row of 'SiteWinds': from the law's contract to the row's form. Conditions: that the law's model is true, and its need.
-/
import Derived.Test.YtlaogoojkfjgoaaSyX
import Derived.Test.YtlaogoojkfjgoaaV1
import Derived.Test.YtlaogoojkfjgoaaV2
import Derived.Test.YtlaogoojkfjgoaaV3
import Derived.Test.YtlaogoojkfjgoaaV4
import Derived.Test.YtlaogoojkfjgoaaRows
import Derived.WalkKit
import Derived.ProofKit
import Derived.OpenShut
import Derived.Lib.SmallJoins
namespace Go.Proofs.Ytlaogoojkfjgoaa
open Go Go.Sy Go.ChangeShapes Go.WideShapes Go.ChangeAt Go.RowKit Go.Joins Go.Deep
set_option linter.unusedVariables false
set_option maxRecDepth 100000
theorem ownSiteWinds : ownKnob Try.prog.godebug = none := by kernel_rfl
theorem overSiteWinds (hall : ∀ (na0 : Nat) (da0 : Dat) (a1_0 : Int) (a1_1 : Int) (a1_2 : Int) (a1_3 : Int) (a1_4 : Int) (a1_5 : Int) (a1_6 : Int) (a1_7 : Int) (a1_8 : Int) (a1_9 : Int) (a1_10 : Int), na0 ≤ maxLen → (∀ q, q < na0 → Kd.sanL [.int .i64, .int .i64, .int .i64] da0 q 0) → (Lit.int .i64 a1_0).wf = true → (Lit.int .i64 a1_1).wf = true → (Lit.int .i64 a1_2).wf = true → (Lit.int .i64 a1_3).wf = true → (Lit.int .i64 a1_4).wf = true → (Lit.int .i64 a1_5).wf = true → (Lit.int .i64 a1_6).wf = true → (Lit.int .i64 a1_7).wf = true → (Lit.int .i64 a1_8).wf = true → (Lit.int .i64 a1_9).wf = true → (Lit.int .i64 a1_10).wf = true → n16 na0 da0 a1_0 a1_1 a1_2 a1_3 a1_4 a1_5 a1_6 a1_7 a1_8 a1_9 a1_10 = true ∧ m16 na0 da0 a1_0 a1_1 a1_2 a1_3 a1_4 a1_5 a1_6 a1_7 a1_8 a1_9 a1_10 = true) : Rows.SiteWindsSaid :=
  OpenClaim.holds_of_wide 16 Try.f16 rfl rfl rfl rfl rfl rfl rfl ⟨rfl, rfl, rfl, rfl, rfl⟩ rfl rfl rfl rfl rfl (by kernel_rfl) Try.func16 (by kernel_rfl)
    (of_decide_eq_true (by kernel_rfl)) (by unfold Func.isWrapper; first | (rw [if_pos (by decide +kernel)]; kernel_rfl) | (rw [if_neg (by decide +kernel)]; exact ⟨rfl, rfl⟩))
    (fun os started H enc _ => law_frame (C := Try.checked) (s := Rows.siteWindsSpec) (tb := 4) (ss := [.c (.sl [.int .i64, .int .i64, .int .i64]), .a [.int .i64, .int .i64, .int .i64, .int .i64, .int .i64, .int .i64, .int .i64, .int .i64, .int .i64, .int .i64, .int .i64]]) ownSiteWinds started (by kernel_rfl) Try.func16
      (ChangeSpec.witness6 (enc := enc) (C := Try.checked) false ⟨#[], #[.slice none 0 0, .agg #[.int .i64 0, .int .i64 0, .int .i64 0, .int .i64 0, .int .i64 0, .int .i64 0, .int .i64 0, .int .i64 0, .int .i64 0, .int .i64 0, .int .i64 0]], []⟩ 8 (by kernel_rfl) (by kernel_rfl) (by kernel_rfl) (by kernel_rfl))
      rfl rfl Try.underlying4 (fun H ds h => match ds, h with | [d0, d1], _ => rfl) (by kernel_rfl) k16 fun us hus => by
        obtain ⟨_, _, rfl, ⟨na0, da0, rfl, wa0, ua0⟩, _, _, rfl, ⟨_, rfl, _, _, rfl, ⟨a1_0, rfl, wa1_0⟩, _, _, rfl, ⟨a1_1, rfl, wa1_1⟩, _, _, rfl, ⟨a1_2, rfl, wa1_2⟩, _, _, rfl, ⟨a1_3, rfl, wa1_3⟩, _, _, rfl, ⟨a1_4, rfl, wa1_4⟩, _, _, rfl, ⟨a1_5, rfl, wa1_5⟩, _, _, rfl, ⟨a1_6, rfl, wa1_6⟩, _, _, rfl, ⟨a1_7, rfl, wa1_7⟩, _, _, rfl, ⟨a1_8, rfl, wa1_8⟩, _, _, rfl, ⟨a1_9, rfl, wa1_9⟩, _, _, rfl, ⟨a1_10, rfl, wa1_10⟩, rfl⟩, rfl⟩ := hus
        obtain ⟨hn, hm⟩ := hall na0 da0 a1_0 a1_1 a1_2 a1_3 a1_4 a1_5 a1_6 a1_7 a1_8 a1_9 a1_10 wa0 ua0 wa1_0 wa1_1 wa1_2 wa1_3 wa1_4 wa1_5 wa1_6 wa1_7 wa1_8 wa1_9 wa1_10
        have e : c16 0 (memOf []) [.ro [.int .i64, .int .i64, .int .i64] na0 da0, .agg [.int .i64 a1_0, .int .i64 a1_1, .int .i64 a1_2, .int .i64 a1_3, .int .i64 a1_4, .int .i64 a1_5, .int .i64 a1_6, .int .i64 a1_7, .int .i64 a1_8, .int .i64 a1_9, .int .i64 a1_10]] = some { v := .bool (m16 na0 da0 a1_0 a1_1 a1_2 a1_3 a1_4 a1_5 a1_6 a1_7 a1_8 a1_9 a1_10), need := [n16 na0 da0 a1_0 a1_1 a1_2 a1_3 a1_4 a1_5 a1_6 a1_7 a1_8 a1_9 a1_10] } := by kernel_rfl
        rw [hm] at e
        exact ⟨_, e, by simp [hn]⟩)
end Go.Proofs.Ytlaogoojkfjgoaa

/-
 The row of 'TopFillMixed': from the law's contract to the row's form. Conditions: that the law's model is true, and its need.
-/
import Derived.Test.YtmndejpcpfkajaaBSyX
import Derived.Test.YtmndejpcpfkajaaRows
import Derived.WalkKit
import Derived.ProofKit
import Derived.OpenShut
import Derived.Lib.SmallJoins
import Derived.Test.YtmndejpcpfkajaaB9
namespace Go.Proofs.Ytmndejpcpfkajaa
open Go Go.Sy Go.ChangeShapes Go.WideShapes Go.ChangeAt Go.RowKit Go.Joins Go.Deep
set_option linter.unusedVariables false
set_option maxRecDepth 100000
theorem ownTopFillMixed : ownKnob Try.prog.godebug = none := by kernel_rfl
theorem overTopFillMixed (hall : ∀ (na0_0 : Nat) (da0_0 : Dat) (a0_1 : Int) (a0_2 : Int) (a0_3 : Int) (a0_4 : Int) (a0_5 : Int) (a0_6 : Int) (a0_7 : Int) (a0_8 : Int) (na1_0 : Nat) (da1_0 : Dat) (a1_1 : Int), na0_0 ≤ maxLen → (∀ q, q < na0_0 → Kd.sanL [.str, .int .i64, .int .i64, .int .i64, .int .i64] da0_0 q 0) → (Lit.int .i64 a0_1).wf = true → (Lit.int .i64 a0_2).wf = true → (Lit.int .i64 a0_3).wf = true → (Lit.int .i64 a0_4).wf = true → (Lit.int .i64 a0_5).wf = true → (Lit.int .i64 a0_6).wf = true → (Lit.int .i64 a0_7).wf = true → (Lit.int .i64 a0_8).wf = true → na1_0 ≤ maxLen → (∀ q, q < na1_0 → Kd.sanL [.int .i64] da1_0 q 0) → (Lit.int .i64 a1_1).wf = true → n5 na0_0 da0_0 a0_1 a0_2 a0_3 a0_4 a0_5 a0_6 a0_7 a0_8 na1_0 da1_0 a1_1 = true ∧ m5 na0_0 da0_0 a0_1 a0_2 a0_3 a0_4 a0_5 a0_6 a0_7 a0_8 na1_0 da1_0 a1_1 = true) : Rows.TopFillMixedSaid :=
 OpenClaim.holds_of_wide 5 Try.f5 rfl rfl rfl rfl rfl rfl rfl ⟨rfl, rfl, rfl, rfl, rfl⟩ rfl rfl rfl rfl rfl (by kernel_rfl) Try.func5 (by kernel_rfl)
  (of_decide_eq_true (by kernel_rfl)) (by unfold Func.isWrapper; first | (rw [if_pos (by decide +kernel)]; kernel_rfl) | (rw [if_neg (by decide +kernel)]; exact ⟨rfl, rfl⟩))
  (fun os started H enc _ => law_frame (C := Try.checked) (s := Rows.topFillMixedSpec) (tb := 4) (ss := [.a [.sl [.str, .int .i64, .int .i64, .int .i64, .int .i64], .int .i64, .int .i64, .int .i64, .int .i64, .int .i64, .int .i64, .int .i64, .int .i64], .a [.sl [.int .i64], .int .i64]]) ownTopFillMixed started (by kernel_rfl) Try.func5
   (ChangeSpec.witness6 (enc := enc) (C := Try.checked) false ⟨#[], #[.agg #[.slice none 0 0, .int .i64 0, .int .i64 0, .int .i64 0, .int .i64 0, .int .i64 0, .int .i64 0, .int .i64 0, .int .i64 0], .agg #[.slice none 0 0, .int .i64 0]], []⟩ 8 (by kernel_rfl) (by kernel_rfl) (by kernel_rfl) (by kernel_rfl))
   rfl rfl Try.underlying4 (fun H ds h => match ds, h with | [d0, d1], _ => rfl) (by kernel_rfl) k5 fun us hus => by
    obtain ⟨_, _, rfl, ⟨_, rfl, _, _, rfl, ⟨na0_0, da0_0, rfl, wa0_0, ua0_0⟩, _, _, rfl, ⟨a0_1, rfl, wa0_1⟩, _, _, rfl, ⟨a0_2, rfl, wa0_2⟩, _, _, rfl, ⟨a0_3, rfl, wa0_3⟩, _, _, rfl, ⟨a0_4, rfl, wa0_4⟩, _, _, rfl, ⟨a0_5, rfl, wa0_5⟩, _, _, rfl, ⟨a0_6, rfl, wa0_6⟩, _, _, rfl, ⟨a0_7, rfl, wa0_7⟩, _, _, rfl, ⟨a0_8, rfl, wa0_8⟩, rfl⟩, _, _, rfl, ⟨_, rfl, _, _, rfl, ⟨na1_0, da1_0, rfl, wa1_0, ua1_0⟩, _, _, rfl, ⟨a1_1, rfl, wa1_1⟩, rfl⟩, rfl⟩ := hus
    obtain ⟨hn, hm⟩ := hall na0_0 da0_0 a0_1 a0_2 a0_3 a0_4 a0_5 a0_6 a0_7 a0_8 na1_0 da1_0 a1_1 wa0_0 ua0_0 wa0_1 wa0_2 wa0_3 wa0_4 wa0_5 wa0_6 wa0_7 wa0_8 wa1_0 ua1_0 wa1_1
    have e : c5 0 (memOf []) [.agg [.ro [.str, .int .i64, .int .i64, .int .i64, .int .i64] na0_0 da0_0, .int .i64 a0_1, .int .i64 a0_2, .int .i64 a0_3, .int .i64 a0_4, .int .i64 a0_5, .int .i64 a0_6, .int .i64 a0_7, .int .i64 a0_8], .agg [.ro [.int .i64] na1_0 da1_0, .int .i64 a1_1]] = some { v := .bool (m5 na0_0 da0_0 a0_1 a0_2 a0_3 a0_4 a0_5 a0_6 a0_7 a0_8 na1_0 da1_0 a1_1), need := [n5 na0_0 da0_0 a0_1 a0_2 a0_3 a0_4 a0_5 a0_6 a0_7 a0_8 na1_0 da1_0 a1_1] } := by kernel_rfl
    rw [hm] at e
    exact ⟨_, e, by simp [hn]⟩)
end Go.Proofs.Ytmndejpcpfkajaa

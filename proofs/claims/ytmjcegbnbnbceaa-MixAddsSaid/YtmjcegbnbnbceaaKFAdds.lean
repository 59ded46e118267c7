/-
  The row of 'MixAdds': from the law's contract to the row's form. Conditions: that the law's model is true, and its need.
-/
import Derived.Test.YtmjcegbnbnbceaaSyX
import Derived.Test.YtmjcegbnbnbceaaK1
import Derived.Test.YtmjcegbnbnbceaaK2
import Derived.Test.YtmjcegbnbnbceaaK3
import Derived.Test.YtmjcegbnbnbceaaK4
import Derived.Test.YtmjcegbnbnbceaaRows
import Derived.WalkKit
import Derived.ProofKit
import Derived.OpenShut
import Derived.Lib.SmallJoins
namespace Go.Proofs.Ytmjcegbnbnbceaa
open Go Go.Sy Go.ChangeShapes Go.WideShapes Go.ChangeAt Go.RowKit Go.Joins Go.Deep
set_option linter.unusedVariables false
set_option maxRecDepth 100000
theorem ownMixAdds : ownKnob Try.prog.godebug = none := by kernel_rfl
theorem overMixAdds (hall : ∀ (na0 : Nat) (da0 : Dat) (na1 : Nat) (da1 : Dat) (a2_0 : Int) (a2_1 : Int) (a2_2 : ByteArray) (a2_3 : ByteArray) (a2_4 : Int) (a2_5 : Int) (a2_6 : Int) (a2_7 : Bool), na0 ≤ maxLen → (∀ q, q < na0 → Kd.sanL [.str, .int .i64, .int .i64] da0 q 0) → na1 ≤ maxLen → (∀ q, q < na1 → Kd.sanL [.int .i64, .int .i64, .str, .str, .int .i64, .int .i64, .int .i64, .bool] da1 q 0) → (Lit.int .i64 a2_0).wf = true → (Lit.int .i64 a2_1).wf = true → a2_2.size ≤ maxLen → a2_3.size ≤ maxLen → (Lit.int .i64 a2_4).wf = true → (Lit.int .i64 a2_5).wf = true → (Lit.int .i64 a2_6).wf = true → n7 na0 da0 na1 da1 a2_0 a2_1 a2_2 a2_3 a2_4 a2_5 a2_6 a2_7 = true ∧ m7 na0 da0 na1 da1 a2_0 a2_1 a2_2 a2_3 a2_4 a2_5 a2_6 a2_7 = true) : Rows.MixAddsSaid :=
  OpenClaim.holds_of_wide 7 Try.f7 rfl rfl rfl rfl rfl rfl rfl ⟨rfl, rfl, rfl, rfl, rfl⟩ rfl rfl rfl rfl rfl (by kernel_rfl) Try.func7 (by kernel_rfl)
    (of_decide_eq_true (by kernel_rfl)) (by unfold Func.isWrapper; first | (rw [if_pos (by decide +kernel)]; kernel_rfl) | (rw [if_neg (by decide +kernel)]; exact ⟨rfl, rfl⟩))
    (fun os started H enc _ => law_frame (C := Try.checked) (s := Rows.mixAddsSpec) (tb := 4) (ss := [.c (.sl [.str, .int .i64, .int .i64]), .c (.sl [.int .i64, .int .i64, .str, .str, .int .i64, .int .i64, .int .i64, .bool]), .a [.int .i64, .int .i64, .str, .str, .int .i64, .int .i64, .int .i64, .bool]]) ownMixAdds started (by kernel_rfl) Try.func7
      (ChangeSpec.witness6 (enc := enc) (C := Try.checked) false ⟨#[], #[.slice none 0 0, .slice none 0 0, .agg #[.int .i64 0, .int .i64 0, .string .empty, .string .empty, .int .i64 0, .int .i64 0, .int .i64 0, .bool false]], []⟩ 8 (by kernel_rfl) (by kernel_rfl) (by kernel_rfl) (by kernel_rfl))
      rfl rfl Try.underlying4 (fun H ds h => match ds, h with | [d0, d1, d2], _ => rfl) (by kernel_rfl) k7 fun us hus => by
        obtain ⟨_, _, rfl, ⟨na0, da0, rfl, wa0, ua0⟩, _, _, rfl, ⟨na1, da1, rfl, wa1, ua1⟩, _, _, rfl, ⟨_, rfl, _, _, rfl, ⟨a2_0, rfl, wa2_0⟩, _, _, rfl, ⟨a2_1, rfl, wa2_1⟩, _, _, rfl, ⟨a2_2, rfl, wa2_2⟩, _, _, rfl, ⟨a2_3, rfl, wa2_3⟩, _, _, rfl, ⟨a2_4, rfl, wa2_4⟩, _, _, rfl, ⟨a2_5, rfl, wa2_5⟩, _, _, rfl, ⟨a2_6, rfl, wa2_6⟩, _, _, rfl, ⟨a2_7, rfl⟩, rfl⟩, rfl⟩ := hus
        obtain ⟨hn, hm⟩ := hall na0 da0 na1 da1 a2_0 a2_1 a2_2 a2_3 a2_4 a2_5 a2_6 a2_7 wa0 ua0 wa1 ua1 wa2_0 wa2_1 wa2_2 wa2_3 wa2_4 wa2_5 wa2_6
        have e : c7 0 (memOf []) [.ro [.str, .int .i64, .int .i64] na0 da0, .ro [.int .i64, .int .i64, .str, .str, .int .i64, .int .i64, .int .i64, .bool] na1 da1, .agg [.int .i64 a2_0, .int .i64 a2_1, .str a2_2, .str a2_3, .int .i64 a2_4, .int .i64 a2_5, .int .i64 a2_6, .bool a2_7]] = some { v := .bool (m7 na0 da0 na1 da1 a2_0 a2_1 a2_2 a2_3 a2_4 a2_5 a2_6 a2_7), need := [n7 na0 da0 na1 da1 a2_0 a2_1 a2_2 a2_3 a2_4 a2_5 a2_6 a2_7] } := by kernel_rfl
        rw [hm] at e
        exact ⟨_, e, by simp [hn]⟩)
end Go.Proofs.Ytmjcegbnbnbceaa

/-
  The row of 'MixContents': from the law's contract to the row's form. Conditions: that the law's model is true, and its need.
-/
import Derived.Test.YtmjcegbnbnbceaaSyX
import Derived.Test.YtmjcegbnbnbceaaL1
import Derived.Test.YtmjcegbnbnbceaaL2
import Derived.Test.YtmjcegbnbnbceaaL3
import Derived.Test.YtmjcegbnbnbceaaL4
import Derived.Test.YtmjcegbnbnbceaaRows
import Derived.WalkKit
import Derived.ProofKit
import Derived.OpenShut
import Derived.Lib.SmallJoins
namespace Go.Proofs.Ytmjcegbnbnbceaa
open Go Go.Sy Go.ChangeShapes Go.WideShapes Go.ChangeAt Go.RowKit Go.Joins Go.Deep
set_option linter.unusedVariables false
set_option maxRecDepth 100000
theorem ownMixContents : ownKnob Try.prog.godebug = none := by kernel_rfl
theorem overMixContents (hall : ∀ (na0 : Nat) (da0 : Dat) (na1 : Nat) (da1 : Dat) (a2 : ByteArray), na0 ≤ maxLen → (∀ q, q < na0 → Kd.sanL [.str, .int .i64, .int .i64] da0 q 0) → na1 ≤ maxLen → (∀ q, q < na1 → Kd.sanL [.int .i64, .int .i64, .str, .str, .int .i64, .int .i64, .int .i64, .bool] da1 q 0) → a2.size ≤ maxLen → n9 na0 da0 na1 da1 a2 = true ∧ m9 na0 da0 na1 da1 a2 = true) : Rows.MixContentsSaid :=
  OpenClaim.holds_of_wide 9 Try.f9 rfl rfl rfl rfl rfl rfl rfl ⟨rfl, rfl, rfl, rfl, rfl⟩ rfl rfl rfl rfl rfl (by kernel_rfl) Try.func9 (by kernel_rfl)
    (of_decide_eq_true (by kernel_rfl)) (by unfold Func.isWrapper; first | (rw [if_pos (by decide +kernel)]; kernel_rfl) | (rw [if_neg (by decide +kernel)]; exact ⟨rfl, rfl⟩))
    (fun os started H enc _ => law_frame (C := Try.checked) (s := Rows.mixContentsSpec) (tb := 4) (ss := [.c (.sl [.str, .int .i64, .int .i64]), .c (.sl [.int .i64, .int .i64, .str, .str, .int .i64, .int .i64, .int .i64, .bool]), .c (.str)]) ownMixContents started (by kernel_rfl) Try.func9
      (ChangeSpec.witness6 (enc := enc) (C := Try.checked) false ⟨#[], #[.slice none 0 0, .slice none 0 0, .string .empty], []⟩ 8 (by kernel_rfl) (by kernel_rfl) (by kernel_rfl) (by kernel_rfl))
      rfl rfl Try.underlying4 (fun H ds h => match ds, h with | [d0, d1, d2], _ => rfl) (by kernel_rfl) k9 fun us hus => by
        obtain ⟨_, _, rfl, ⟨na0, da0, rfl, wa0, ua0⟩, _, _, rfl, ⟨na1, da1, rfl, wa1, ua1⟩, _, _, rfl, ⟨a2, rfl, wa2⟩, rfl⟩ := hus
        obtain ⟨hn, hm⟩ := hall na0 da0 na1 da1 a2 wa0 ua0 wa1 ua1 wa2
        have e : c9 0 (memOf []) [.ro [.str, .int .i64, .int .i64] na0 da0, .ro [.int .i64, .int .i64, .str, .str, .int .i64, .int .i64, .int .i64, .bool] na1 da1, .str a2] = some { v := .bool (m9 na0 da0 na1 da1 a2), need := [n9 na0 da0 na1 da1 a2] } := by kernel_rfl
        rw [hm] at e
        exact ⟨_, e, by simp [hn]⟩)
end Go.Proofs.Ytmjcegbnbnbceaa

/-
  The row of 'TopThinned': from the law's contract to the row's form. Conditions: that the law's model is true, and its need.
-/
import Derived.Test.YtchhhoamnagbfaaTSyX
import Derived.Test.YtchhhoamnagbfaaRows
import Derived.WalkKit
import Derived.ProofKit
import Derived.OpenShut
import Derived.Lib.SmallJoins
import Derived.Test.YtchhhoamnagbfaaT3
namespace Go.Proofs.Ytchhhoamnagbfaa
open Go Go.Sy Go.ChangeShapes Go.WideShapes Go.ChangeAt Go.RowKit Go.Joins Go.Deep
set_option linter.unusedVariables false
set_option maxRecDepth 100000
theorem ownTopThinned : ownKnob Try.prog.godebug = none := by kernel_rfl
theorem overTopThinned (hall : ∀ (na0 : Nat) (da0 : Dat) (a1 : Int) (a2 : Int), na0 ≤ maxLen → (∀ q, q < na0 → Kd.sanL [.int .i64, .int .i64] da0 q 0) → (Lit.int .i64 a1).wf = true → (Lit.int .i64 a2).wf = true → n3 na0 da0 a1 a2 = true ∧ m3 na0 da0 a1 a2 = true) : Rows.TopThinnedSaid :=
  OpenClaim.holds_of_wide 3 Try.f3 rfl rfl rfl rfl rfl rfl rfl ⟨rfl, rfl, rfl, rfl, rfl⟩ rfl rfl rfl rfl rfl (by kernel_rfl) Try.func3 (by kernel_rfl)
    (of_decide_eq_true (by kernel_rfl)) (by unfold Func.isWrapper; first | (rw [if_pos (by decide +kernel)]; kernel_rfl) | (rw [if_neg (by decide +kernel)]; exact ⟨rfl, rfl⟩))
    (fun os started H enc _ => law_frame (C := Try.checked) (s := Rows.topThinnedSpec) (tb := 4) (ss := [.c (.sl [.int .i64, .int .i64]), .c (.int .i64), .c (.int .i64)]) ownTopThinned started (by kernel_rfl) Try.func3
      (ChangeSpec.witness6 (enc := enc) (C := Try.checked) false ⟨#[], #[.slice none 0 0, .int .i64 0, .int .i64 0], []⟩ 8 (by kernel_rfl) (by kernel_rfl) (by kernel_rfl) (by kernel_rfl))
      rfl rfl Try.underlying4 (fun H ds h => match ds, h with | [d0, d1, d2], _ => rfl) (by kernel_rfl) k3 fun us hus => by
        obtain ⟨_, _, rfl, ⟨na0, da0, rfl, wa0, ua0⟩, _, _, rfl, ⟨a1, rfl, wa1⟩, _, _, rfl, ⟨a2, rfl, wa2⟩, rfl⟩ := hus
        obtain ⟨hn, hm⟩ := hall na0 da0 a1 a2 wa0 ua0 wa1 wa2
        have e : c3 0 (memOf []) [.ro [.int .i64, .int .i64] na0 da0, .int .i64 a1, .int .i64 a2] = some { v := .bool (m3 na0 da0 a1 a2), need := [n3 na0 da0 a1 a2] } := by kernel_rfl
        rw [hm] at e
        exact ⟨_, e, by simp [hn]⟩)
end Go.Proofs.Ytchhhoamnagbfaa

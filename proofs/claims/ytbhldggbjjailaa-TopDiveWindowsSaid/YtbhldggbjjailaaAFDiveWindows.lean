/-
  The row of 'TopDiveWindows': from the law's contract to the row's form. Conditions: that the law's model is true, and its need.
-/
import Derived.Test.YtbhldggbjjailaaSyX
import Derived.Test.YtbhldggbjjailaaA1
import Derived.Test.YtbhldggbjjailaaA2
import Derived.Test.YtbhldggbjjailaaA3
import Derived.Test.YtbhldggbjjailaaA4
import Derived.Test.YtbhldggbjjailaaA5
import Derived.Test.YtbhldggbjjailaaRows
import Derived.WalkKit
import Derived.ProofKit
import Derived.OpenShut
import Derived.Lib.SmallJoins
namespace Go.Proofs.Ytbhldggbjjailaa
open Go Go.Sy Go.ChangeShapes Go.WideShapes Go.ChangeAt Go.RowKit Go.Joins Go.Deep
set_option linter.unusedVariables false
set_option maxRecDepth 100000
theorem ownTopDiveWindows : ownKnob Try.prog.godebug = none := by kernel_rfl
theorem overTopDiveWindows (hall : ∀ (a0_0 : Int) (na0_1 : Nat) (da0_1 : Dat) (a0_2 : Int) (a0_3 : Int) (a0_4 : Int) (a0_5 : Bool) (a0_6 : Int) (a0_7 : Int) (a0_8 : Int) (a0_9 : Int) (a0_10 : Int) (a0_11 : Int) (a0_12 : Int) (a0_13 : Int) (na0_14 : Nat) (da0_14 : Dat) (a1 : Int), (Lit.int .i64 a0_0).wf = true → na0_1 ≤ maxLen → (∀ q, q < na0_1 → Kd.sanL [.int .i64, .int .i64, .int .i64] da0_1 q 0) → (Lit.int .i64 a0_2).wf = true → (Lit.int .i64 a0_3).wf = true → (Lit.int .i64 a0_4).wf = true → (Lit.int .i64 a0_6).wf = true → (Lit.int .i64 a0_7).wf = true → (Lit.int .i64 a0_8).wf = true → (Lit.int .i64 a0_9).wf = true → (Lit.int .i64 a0_10).wf = true → (Lit.int .i64 a0_11).wf = true → (Lit.int .i64 a0_12).wf = true → (Lit.int .i64 a0_13).wf = true → na0_14 ≤ maxLen → (∀ q, q < na0_14 → Kd.sanL [.int .i64, .int .i64, .int .i64] da0_14 q 0) → (Lit.int .i64 a1).wf = true → n3 a0_0 na0_1 da0_1 a0_2 a0_3 a0_4 a0_5 a0_6 a0_7 a0_8 a0_9 a0_10 a0_11 a0_12 a0_13 na0_14 da0_14 a1 = true ∧ m3 a0_0 na0_1 da0_1 a0_2 a0_3 a0_4 a0_5 a0_6 a0_7 a0_8 a0_9 a0_10 a0_11 a0_12 a0_13 na0_14 da0_14 a1 = true) : Rows.TopDiveWindowsSaid :=
  OpenClaim.holds_of_wide 3 Try.f3 rfl rfl rfl rfl rfl rfl rfl ⟨rfl, rfl, rfl, rfl, rfl⟩ rfl rfl rfl rfl rfl (by kernel_rfl) Try.func3 (by kernel_rfl)
    (of_decide_eq_true (by kernel_rfl)) (by unfold Func.isWrapper; first | (rw [if_pos (by decide +kernel)]; kernel_rfl) | (rw [if_neg (by decide +kernel)]; exact ⟨rfl, rfl⟩))
    (fun os started H enc _ => law_frame (C := Try.checked) (s := Rows.topDiveWindowsSpec) (tb := 4) (ss := [.a [.int .i64, .sl [.int .i64, .int .i64, .int .i64], .int .i64, .int .i64, .int .i64, .bool, .int .i64, .int .i64, .int .i64, .int .i64, .int .i64, .int .i64, .int .i64, .int .i64, .sl [.int .i64, .int .i64, .int .i64]], .c (.int .i64)]) ownTopDiveWindows started (by kernel_rfl) Try.func3
      (ChangeSpec.witness6 (enc := enc) (C := Try.checked) false ⟨#[], #[.agg #[.int .i64 0, .slice none 0 0, .int .i64 0, .int .i64 0, .int .i64 0, .bool false, .int .i64 0, .int .i64 0, .int .i64 0, .int .i64 0, .int .i64 0, .int .i64 0, .int .i64 0, .int .i64 0, .slice none 0 0], .int .i64 0], []⟩ 8 (by kernel_rfl) (by kernel_rfl) (by kernel_rfl) (by kernel_rfl))
      rfl rfl Try.underlying4 (fun H ds h => match ds, h with | [d0, d1], _ => rfl) (by kernel_rfl) k3 fun us hus => by
        obtain ⟨_, _, rfl, ⟨_, rfl, _, _, rfl, ⟨a0_0, rfl, wa0_0⟩, _, _, rfl, ⟨na0_1, da0_1, rfl, wa0_1, ua0_1⟩, _, _, rfl, ⟨a0_2, rfl, wa0_2⟩, _, _, rfl, ⟨a0_3, rfl, wa0_3⟩, _, _, rfl, ⟨a0_4, rfl, wa0_4⟩, _, _, rfl, ⟨a0_5, rfl⟩, _, _, rfl, ⟨a0_6, rfl, wa0_6⟩, _, _, rfl, ⟨a0_7, rfl, wa0_7⟩, _, _, rfl, ⟨a0_8, rfl, wa0_8⟩, _, _, rfl, ⟨a0_9, rfl, wa0_9⟩, _, _, rfl, ⟨a0_10, rfl, wa0_10⟩, _, _, rfl, ⟨a0_11, rfl, wa0_11⟩, _, _, rfl, ⟨a0_12, rfl, wa0_12⟩, _, _, rfl, ⟨a0_13, rfl, wa0_13⟩, _, _, rfl, ⟨na0_14, da0_14, rfl, wa0_14, ua0_14⟩, rfl⟩, _, _, rfl, ⟨a1, rfl, wa1⟩, rfl⟩ := hus
        obtain ⟨hn, hm⟩ := hall a0_0 na0_1 da0_1 a0_2 a0_3 a0_4 a0_5 a0_6 a0_7 a0_8 a0_9 a0_10 a0_11 a0_12 a0_13 na0_14 da0_14 a1 wa0_0 wa0_1 ua0_1 wa0_2 wa0_3 wa0_4 wa0_6 wa0_7 wa0_8 wa0_9 wa0_10 wa0_11 wa0_12 wa0_13 wa0_14 ua0_14 wa1
        have e : c3 0 (memOf []) [.agg [.int .i64 a0_0, .ro [.int .i64, .int .i64, .int .i64] na0_1 da0_1, .int .i64 a0_2, .int .i64 a0_3, .int .i64 a0_4, .bool a0_5, .int .i64 a0_6, .int .i64 a0_7, .int .i64 a0_8, .int .i64 a0_9, .int .i64 a0_10, .int .i64 a0_11, .int .i64 a0_12, .int .i64 a0_13, .ro [.int .i64, .int .i64, .int .i64] na0_14 da0_14], .int .i64 a1] = some { v := .bool (m3 a0_0 na0_1 da0_1 a0_2 a0_3 a0_4 a0_5 a0_6 a0_7 a0_8 a0_9 a0_10 a0_11 a0_12 a0_13 na0_14 da0_14 a1), need := [n3 a0_0 na0_1 da0_1 a0_2 a0_3 a0_4 a0_5 a0_6 a0_7 a0_8 a0_9 a0_10 a0_11 a0_12 a0_13 na0_14 da0_14 a1] } := by kernel_rfl
        rw [hm] at e
        exact ⟨_, e, by simp [hn]⟩)
end Go.Proofs.Ytbhldggbjjailaa

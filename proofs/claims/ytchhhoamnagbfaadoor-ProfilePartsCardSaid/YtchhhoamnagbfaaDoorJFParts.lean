/-
  The row of 'ProfileParts': from the law's contract to the row's form. Conditions: that the law's model is true, and its need.
-/
import Derived.Test.YtchhhoamnagbfaaDoorJSyX
import Derived.Test.YtchhhoamnagbfaaDoorRows
import Derived.Test.YtchhhoamnagbfaaDoorTie
import Derived.Test.YtchhhoamnagbfaaDoorCards
import Derived.LaidMore
import Derived.Lay
import Derived.Stop.Joined
import Derived.SevenTiedAt
import Derived.WalkKit
import Derived.ProofKit
import Derived.OpenShut
import Derived.Lib.SmallJoins
import Derived.Test.YtchhhoamnagbfaaDoorJPv
namespace Go.Proofs.YtchhhoamnagbfaaDoor
open Go Go.Sy Go.ChangeShapes Go.WideShapes Go.ChangeAt Go.RowKit Go.Joins Go.Deep
set_option linter.unusedVariables false
set_option maxRecDepth 100000
theorem ownProfileParts : ownKnob Tryd.prog.godebug = none := by kernel_rfl
theorem overProfileParts (hall : ∀ (a0_0 : ByteArray) (a0_1 : Int) (na0_2 : Nat) (da0_2 : Dat) (na0_3 : Nat) (da0_3 : Dat) (a1 : Int), a0_0.size ≤ maxLen → (Lit.int .i64 a0_1).wf = true → na0_2 ≤ maxLen → (∀ q, q < na0_2 → Kd.sanL [.int .i64, .int .i64] da0_2 q 0) → na0_3 ≤ maxLen → (∀ q, q < na0_3 → Kd.sanL [.int .i64, .int .i64, .int .i64] da0_3 q 0) → (Lit.int .i64 a1).wf = true → n8 a0_0 a0_1 na0_2 da0_2 na0_3 da0_3 a1 = true ∧ m8 a0_0 a0_1 na0_2 da0_2 na0_3 da0_3 a1 = true) : Rows.ProfilePartsSaid :=
  OpenClaim.holds_of_wide 8 Tryd.f8 rfl rfl rfl rfl rfl rfl rfl ⟨rfl, rfl, rfl, rfl, rfl⟩ rfl rfl rfl rfl rfl (by kernel_rfl) Tryd.func8 (by kernel_rfl)
    (of_decide_eq_true (by kernel_rfl)) (by unfold Func.isWrapper; first | (rw [if_pos (by decide +kernel)]; kernel_rfl) | (rw [if_neg (by decide +kernel)]; exact ⟨rfl, rfl⟩))
    (fun os started H enc _ => law_frame (L := laidL) (C := Tryd.checked) (s := Rows.profilePartsSpec) (tb := 4) (ss := [.a [.str, .int .i64, .sl [.int .i64, .int .i64], .sl [.int .i64, .int .i64, .int .i64]], .c (.int .i64)]) ownProfileParts started (by kernel_rfl) Tryd.func8
      (ChangeSpec.witness_shaped (enc := enc) (C := Tryd.checked) (os := os) (X := fun w _ => laidMetH Tryd.prog laidL w) false (World.laidAll Tryd.prog os laidL) #[.agg #[.string .empty, .int .i64 0, .slice none 0 0, .slice none 0 0], .int .i64 0] 8 (World.laidAll_os _ _ _) (World.shaped_of_ZipB (by kernel_rfl) (by kernel_rfl)) (by kernel_rfl) (by kernel_rfl) (by kernel_rfl) (by rw [MakeChecks.laidMetH_plain _ _ _ (by kernel_rfl)]; exact laidMet_laidAll _ (by kernel_rfl) (by kernel_rfl)))
      pv_laid
      rfl rfl Tryd.underlying4 (fun H ds h => match ds, h with | [d0, d1], _ => rfl) (by kernel_rfl) k8 fun us hus => by
        obtain ⟨_, _, rfl, ⟨_, rfl, _, _, rfl, ⟨a0_0, rfl, wa0_0⟩, _, _, rfl, ⟨a0_1, rfl, wa0_1⟩, _, _, rfl, ⟨na0_2, da0_2, rfl, wa0_2, ua0_2⟩, _, _, rfl, ⟨na0_3, da0_3, rfl, wa0_3, ua0_3⟩, rfl⟩, _, _, rfl, ⟨a1, rfl, wa1⟩, rfl⟩ := hus
        obtain ⟨hn, hm⟩ := hall a0_0 a0_1 na0_2 da0_2 na0_3 da0_3 a1 wa0_0 wa0_1 wa0_2 ua0_2 wa0_3 ua0_3 wa1
        have e : c8 0 (memOf []) [.agg [.str a0_0, .int .i64 a0_1, .ro [.int .i64, .int .i64] na0_2 da0_2, .ro [.int .i64, .int .i64, .int .i64] na0_3 da0_3], .int .i64 a1] = some { v := .bool (m8 a0_0 a0_1 na0_2 da0_2 na0_3 da0_3 a1), need := [n8 a0_0 a0_1 na0_2 da0_2 na0_3 da0_3 a1] } := by kernel_rfl
        rw [hm] at e
        exact ⟨_, e, by simp [hn]⟩)
theorem cardProfileParts (h : Rows.ProfilePartsSaid) : Rows.ProfilePartsCardSaid :=
  Claim7.holds_tied_plain_at .later [] [.data, .data, .data, .data, .pinned] true (true, "ab9c64a2ea49229424a100ee1f3fdfb4aa29015beaff45446d4e9c697272f457") false h (fun _ h => by cases h) (by kernel_rfl) (fun _ h => by cases h) profileParts_row_tie rfl ⟨rfl, rfl⟩ (by kernel_rfl) rfl
    (fun f fn hf hfn => by
      obtain rfl : f = 8 := Option.some.inj ((show Tryd.prog.funcNamed "shotline/shotlinelaw02.ProfileParts" = some 8 by kernel_rfl).symm.trans hf) |>.symm
      obtain rfl : fn = Tryd.f8 := (Option.some.inj (Tryd.func8.symm.trans hfn)).symm
      exact ⟨by kernel_rfl, fun j t ht => by
        rw [Tryd.params8] at ht
        have hm : t ∈ [41, 3] := by simpa using Array.mem_of_getElem? ht
        have hall : ([41, 3].all fun u => !Tryd.prog.wantsStandIn u) = true := by kernel_rfl
        exact (show Tryd.prog.wantsStandIn t = false by simpa using List.all_eq_true.1 hall t hm)⟩)
    (by kernel_rfl)
end Go.Proofs.YtchhhoamnagbfaaDoor

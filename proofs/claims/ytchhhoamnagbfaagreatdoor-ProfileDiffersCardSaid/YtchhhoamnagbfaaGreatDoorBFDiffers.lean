/-
  The row of 'ProfileDiffers': from the law's contract to the row's form. Conditions: that the law's model is true, and its need.
-/
import Derived.Test.YtchhhoamnagbfaaGreatDoorBSyX
import Derived.Test.YtchhhoamnagbfaaGreatDoorRows
import Derived.Test.YtchhhoamnagbfaaGreatDoorTie
import Derived.Test.YtchhhoamnagbfaaGreatDoorCards
import Derived.LaidMore
import Derived.Lay
import Derived.Stop.Joined
import Derived.SevenTiedAt
import Derived.WalkKit
import Derived.ProofKit
import Derived.OpenShut
import Derived.Lib.SmallJoins
import Derived.Test.YtchhhoamnagbfaaGreatDoorBPv
namespace Go.Proofs.YtchhhoamnagbfaaGreatDoor
open Go Go.Sy Go.ChangeShapes Go.WideShapes Go.ChangeAt Go.RowKit Go.Joins Go.Deep
set_option linter.unusedVariables false
set_option maxRecDepth 100000
theorem ownProfileDiffers : ownKnob Tryz.prog.godebug = none := by kernel_rfl
theorem overProfileDiffers (hall : ∀ (a0_0 : ByteArray) (a0_1 : Int) (na0_2 : Nat) (da0_2 : Dat) (na0_3 : Nat) (da0_3 : Dat) (a1_0 : ByteArray) (a1_1 : Int) (na1_2 : Nat) (da1_2 : Dat) (na1_3 : Nat) (da1_3 : Dat), a0_0.size ≤ maxLen → (Lit.int .i64 a0_1).wf = true → na0_2 ≤ maxLen → (∀ q, q < na0_2 → Kd.sanL [.int .i64, .int .i64] da0_2 q 0) → na0_3 ≤ maxLen → (∀ q, q < na0_3 → Kd.sanL [.int .i64, .int .i64, .int .i64] da0_3 q 0) → a1_0.size ≤ maxLen → (Lit.int .i64 a1_1).wf = true → na1_2 ≤ maxLen → (∀ q, q < na1_2 → Kd.sanL [.int .i64, .int .i64] da1_2 q 0) → na1_3 ≤ maxLen → (∀ q, q < na1_3 → Kd.sanL [.int .i64, .int .i64, .int .i64] da1_3 q 0) → n4 a0_0 a0_1 na0_2 da0_2 na0_3 da0_3 a1_0 a1_1 na1_2 da1_2 na1_3 da1_3 = true ∧ m4 a0_0 a0_1 na0_2 da0_2 na0_3 da0_3 a1_0 a1_1 na1_2 da1_2 na1_3 da1_3 = true) : Rows.ProfileDiffersSaid :=
  OpenClaim.holds_of_wide 4 Tryz.f4 rfl rfl rfl rfl rfl rfl rfl ⟨rfl, rfl, rfl, rfl, rfl⟩ rfl rfl rfl rfl rfl (by kernel_rfl) Tryz.func4 (by kernel_rfl)
    (of_decide_eq_true (by kernel_rfl)) (by unfold Func.isWrapper; first | (rw [if_pos (by decide +kernel)]; kernel_rfl) | (rw [if_neg (by decide +kernel)]; exact ⟨rfl, rfl⟩))
    (fun os started H enc _ => law_frame (L := laidL) (C := Tryz.checked) (s := Rows.profileDiffersSpec) (tb := 4) (ss := [.a [.str, .int .i64, .sl [.int .i64, .int .i64], .sl [.int .i64, .int .i64, .int .i64]], .a [.str, .int .i64, .sl [.int .i64, .int .i64], .sl [.int .i64, .int .i64, .int .i64]]]) ownProfileDiffers started (by kernel_rfl) Tryz.func4
      (ChangeSpec.witness_shaped (enc := enc) (C := Tryz.checked) (os := os) (X := fun w _ => laidMetH Tryz.prog laidL w) false (World.laidAll Tryz.prog os laidL) #[.agg #[.string .empty, .int .i64 0, .slice none 0 0, .slice none 0 0], .agg #[.string .empty, .int .i64 0, .slice none 0 0, .slice none 0 0]] 8 (World.laidAll_os _ _ _) (World.shaped_of_ZipB (by kernel_rfl) (by kernel_rfl)) (by kernel_rfl) (by kernel_rfl) (by kernel_rfl) (by rw [MakeChecks.laidMetH_plain _ _ _ (by kernel_rfl)]; exact laidMet_laidAll _ (by kernel_rfl) (by kernel_rfl)))
      pv_laid
      rfl rfl Tryz.underlying4 (fun H ds h => match ds, h with | [d0, d1], _ => rfl) (by kernel_rfl) k4 fun us hus => by
        obtain ⟨_, _, rfl, ⟨_, rfl, _, _, rfl, ⟨a0_0, rfl, wa0_0⟩, _, _, rfl, ⟨a0_1, rfl, wa0_1⟩, _, _, rfl, ⟨na0_2, da0_2, rfl, wa0_2, ua0_2⟩, _, _, rfl, ⟨na0_3, da0_3, rfl, wa0_3, ua0_3⟩, rfl⟩, _, _, rfl, ⟨_, rfl, _, _, rfl, ⟨a1_0, rfl, wa1_0⟩, _, _, rfl, ⟨a1_1, rfl, wa1_1⟩, _, _, rfl, ⟨na1_2, da1_2, rfl, wa1_2, ua1_2⟩, _, _, rfl, ⟨na1_3, da1_3, rfl, wa1_3, ua1_3⟩, rfl⟩, rfl⟩ := hus
        obtain ⟨hn, hm⟩ := hall a0_0 a0_1 na0_2 da0_2 na0_3 da0_3 a1_0 a1_1 na1_2 da1_2 na1_3 da1_3 wa0_0 wa0_1 wa0_2 ua0_2 wa0_3 ua0_3 wa1_0 wa1_1 wa1_2 ua1_2 wa1_3 ua1_3
        have e : c4 0 (memOf []) [.agg [.str a0_0, .int .i64 a0_1, .ro [.int .i64, .int .i64] na0_2 da0_2, .ro [.int .i64, .int .i64, .int .i64] na0_3 da0_3], .agg [.str a1_0, .int .i64 a1_1, .ro [.int .i64, .int .i64] na1_2 da1_2, .ro [.int .i64, .int .i64, .int .i64] na1_3 da1_3]] = some { v := .bool (m4 a0_0 a0_1 na0_2 da0_2 na0_3 da0_3 a1_0 a1_1 na1_2 da1_2 na1_3 da1_3), need := [n4 a0_0 a0_1 na0_2 da0_2 na0_3 da0_3 a1_0 a1_1 na1_2 da1_2 na1_3 da1_3] } := by kernel_rfl
        rw [hm] at e
        exact ⟨_, e, by simp [hn]⟩)
theorem cardProfileDiffers (h : Rows.ProfileDiffersSaid) : Rows.ProfileDiffersCardSaid :=
  Claim7.holds_tied_plain_at .later [] [.data, .data, .data, .data, .pinned] true (true, "26861d4bde804393840e977d34adeb633faddd215da31ad89a4f3b80807a9c31") false h (fun _ h => by cases h) (by kernel_rfl) (fun _ h => by cases h) profileDiffers_row_tie rfl ⟨rfl, rfl⟩ (by kernel_rfl) rfl
    (fun f fn hf hfn => by
      obtain rfl : f = 4 := Option.some.inj ((show Tryz.prog.funcNamed "shotline/shotlinelaw02.ProfileDiffers" = some 4 by kernel_rfl).symm.trans hf) |>.symm
      obtain rfl : fn = Tryz.f4 := (Option.some.inj (Tryz.func4.symm.trans hfn)).symm
      exact ⟨by kernel_rfl, fun j t ht => by
        rw [Tryz.params4] at ht
        have hm : t ∈ [25, 25] := by simpa using Array.mem_of_getElem? ht
        have hall : ([25, 25].all fun u => !Tryz.prog.wantsStandIn u) = true := by kernel_rfl
        exact (show Tryz.prog.wantsStandIn t = false by simpa using List.all_eq_true.1 hall t hm)⟩)
    (by kernel_rfl)
end Go.Proofs.YtchhhoamnagbfaaGreatDoor

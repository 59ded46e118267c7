/-
  The row of 'ProfileFewer': from the law's contract to the row's form. Conditions: that the law's model is true, and its need.
-/
import Derived.Test.YtchhhoamnagbfaaDoorGSyX
import Derived.Test.YtchhhoamnagbfaaDoorRows
import Derived.Test.YtchhhoamnagbfaaDoorTie
import Derived.Test.YtchhhoamnagbfaaDoorCards
import Derived.LaidMore
import Derived.Lay
import Derived.Stop.Joined
import Derived.SevenTiedAt
import Derived.WalkKit
import Derived.ProofKit
import Derived.OpenShut
import Derived.Lib.SmallJoins
import Derived.Test.YtchhhoamnagbfaaDoorGPv
namespace Go.Proofs.YtchhhoamnagbfaaDoor
open Go Go.Sy Go.ChangeShapes Go.WideShapes Go.ChangeAt Go.RowKit Go.Joins Go.Deep
set_option linter.unusedVariables false
set_option maxRecDepth 100000
theorem ownProfileFewer : ownKnob Tryd.prog.godebug = none := by kernel_rfl
theorem overProfileFewer (hall : ∀ (na0 : Nat) (da0 : Dat) (a1_0 : Int) (a1_1 : Int) (na2 : Nat) (da2 : Dat), na0 ≤ maxLen → (∀ q, q < na0 → Kd.sanL [.int .i64, .int .i64] da0 q 0) → (Lit.int .i64 a1_0).wf = true → (Lit.int .i64 a1_1).wf = true → na2 ≤ maxLen → (∀ q, q < na2 → Kd.sanL [.int .i64] da2 q 0) → n9 na0 da0 a1_0 a1_1 na2 da2 = true ∧ m9 na0 da0 a1_0 a1_1 na2 da2 = true) : Rows.ProfileFewerSaid :=
  OpenClaim.holds_of_wide 9 Tryd.f9 rfl rfl rfl rfl rfl rfl rfl ⟨rfl, rfl, rfl, rfl, rfl⟩ rfl rfl rfl rfl rfl (by kernel_rfl) Tryd.func9 (by kernel_rfl)
    (of_decide_eq_true (by kernel_rfl)) (by unfold Func.isWrapper; first | (rw [if_pos (by decide +kernel)]; kernel_rfl) | (rw [if_neg (by decide +kernel)]; exact ⟨rfl, rfl⟩))
    (fun os started H enc _ => law_frame (L := laidL) (C := Tryd.checked) (s := Rows.profileFewerSpec) (tb := 4) (ss := [.c (.sl [.int .i64, .int .i64]), .a [.int .i64, .int .i64], .c (.sl [.int .i64])]) ownProfileFewer started (by kernel_rfl) Tryd.func9
      (ChangeSpec.witness_shaped (enc := enc) (C := Tryd.checked) (os := os) (X := fun w _ => laidMetH Tryd.prog laidL w) false (World.laidAll Tryd.prog os laidL) #[.slice none 0 0, .agg #[.int .i64 0, .int .i64 0], .slice none 0 0] 8 (World.laidAll_os _ _ _) (World.shaped_of_ZipB (by kernel_rfl) (by kernel_rfl)) (by kernel_rfl) (by kernel_rfl) (by kernel_rfl) (by rw [MakeChecks.laidMetH_plain _ _ _ (by kernel_rfl)]; exact laidMet_laidAll _ (by kernel_rfl) (by kernel_rfl)))
      pv_laid
      rfl rfl Tryd.underlying4 (fun H ds h => match ds, h with | [d0, d1, d2], _ => rfl) (by kernel_rfl) k9 fun us hus => by
        obtain ⟨_, _, rfl, ⟨na0, da0, rfl, wa0, ua0⟩, _, _, rfl, ⟨_, rfl, _, _, rfl, ⟨a1_0, rfl, wa1_0⟩, _, _, rfl, ⟨a1_1, rfl, wa1_1⟩, rfl⟩, _, _, rfl, ⟨na2, da2, rfl, wa2, ua2⟩, rfl⟩ := hus
        obtain ⟨hn, hm⟩ := hall na0 da0 a1_0 a1_1 na2 da2 wa0 ua0 wa1_0 wa1_1 wa2 ua2
        have e : c9 0 (memOf []) [.ro [.int .i64, .int .i64] na0 da0, .agg [.int .i64 a1_0, .int .i64 a1_1], .ro [.int .i64] na2 da2] = some { v := .bool (m9 na0 da0 a1_0 a1_1 na2 da2), need := [n9 na0 da0 a1_0 a1_1 na2 da2] } := by kernel_rfl
        rw [hm] at e
        exact ⟨_, e, by simp [hn]⟩)
theorem cardProfileFewer (h : Rows.ProfileFewerSaid) : Rows.ProfileFewerCardSaid :=
  Claim7.holds_tied_plain_at .later [] [.data, .data, .data, .data, .pinned] true (true, "ab9c64a2ea49229424a100ee1f3fdfb4aa29015beaff45446d4e9c697272f457") false h (fun _ h => by cases h) (by kernel_rfl) (fun _ h => by cases h) profileFewer_row_tie rfl ⟨rfl, rfl⟩ (by kernel_rfl) rfl
    (fun f fn hf hfn => by
      obtain rfl : f = 9 := Option.some.inj ((show Tryd.prog.funcNamed "shotline/shotlinelaw02.ProfileFewer" = some 9 by kernel_rfl).symm.trans hf) |>.symm
      obtain rfl : fn = Tryd.f9 := (Option.some.inj (Tryd.func9.symm.trans hfn)).symm
      exact ⟨by kernel_rfl, fun j t ht => by
        rw [Tryd.params9] at ht
        have hm : t ∈ [22, 76, 77] := by simpa using Array.mem_of_getElem? ht
        have hall : ([22, 76, 77].all fun u => !Tryd.prog.wantsStandIn u) = true := by kernel_rfl
        exact (show Tryd.prog.wantsStandIn t = false by simpa using List.all_eq_true.1 hall t hm)⟩)
    (by kernel_rfl)
end Go.Proofs.YtchhhoamnagbfaaDoor

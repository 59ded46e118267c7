/-
  The row of 'ProfileDepths': from the law's contract to the row's form. Conditions: that the law's model is true, and its need.
-/
import Derived.Test.YtchhhoamnagbfaaDoorASyX
import Derived.Test.YtchhhoamnagbfaaDoorRows
import Derived.Test.YtchhhoamnagbfaaDoorTie
import Derived.Test.YtchhhoamnagbfaaDoorCards
import Derived.LaidMore
import Derived.Lay
import Derived.Stop.Joined
import Derived.SevenTiedAt
import Derived.WalkKit
import Derived.ProofKit
import Derived.OpenShut
import Derived.Lib.SmallJoins
import Derived.Test.YtchhhoamnagbfaaDoorAPv
namespace Go.Proofs.YtchhhoamnagbfaaDoor
open Go Go.Sy Go.ChangeShapes Go.WideShapes Go.ChangeAt Go.RowKit Go.Joins Go.Deep
set_option linter.unusedVariables false
set_option maxRecDepth 100000
theorem ownProfileDepths : ownKnob Tryd.prog.godebug = none := by kernel_rfl
theorem overProfileDepths (hall : ∀ (na0 : Nat) (da0 : Dat) (a1 : Int), na0 ≤ maxLen → (∀ q, q < na0 → Kd.sanL [.int .i64, .int .i64] da0 q 0) → (Lit.int .i64 a1).wf = true → n3 na0 da0 a1 = true ∧ m3 na0 da0 a1 = true) : Rows.ProfileDepthsSaid :=
  OpenClaim.holds_of_wide 3 Tryd.f3 rfl rfl rfl rfl rfl rfl rfl ⟨rfl, rfl, rfl, rfl, rfl⟩ rfl rfl rfl rfl rfl (by kernel_rfl) Tryd.func3 (by kernel_rfl)
    (of_decide_eq_true (by kernel_rfl)) (by unfold Func.isWrapper; first | (rw [if_pos (by decide +kernel)]; kernel_rfl) | (rw [if_neg (by decide +kernel)]; exact ⟨rfl, rfl⟩))
    (fun os started H enc _ => law_frame (L := laidL) (C := Tryd.checked) (s := Rows.profileDepthsSpec) (tb := 4) (ss := [.c (.sl [.int .i64, .int .i64]), .c (.int .i64)]) ownProfileDepths started (by kernel_rfl) Tryd.func3
      (ChangeSpec.witness_shaped (enc := enc) (C := Tryd.checked) (os := os) (X := fun w _ => laidMetH Tryd.prog laidL w) false (World.laidAll Tryd.prog os laidL) #[.slice none 0 0, .int .i64 0] 8 (World.laidAll_os _ _ _) (World.shaped_of_ZipB (by kernel_rfl) (by kernel_rfl)) (by kernel_rfl) (by kernel_rfl) (by kernel_rfl) (by rw [MakeChecks.laidMetH_plain _ _ _ (by kernel_rfl)]; exact laidMet_laidAll _ (by kernel_rfl) (by kernel_rfl)))
      pv_laid
      rfl rfl Tryd.underlying4 (fun H ds h => match ds, h with | [d0, d1], _ => rfl) (by kernel_rfl) k3 fun us hus => by
        obtain ⟨_, _, rfl, ⟨na0, da0, rfl, wa0, ua0⟩, _, _, rfl, ⟨a1, rfl, wa1⟩, rfl⟩ := hus
        obtain ⟨hn, hm⟩ := hall na0 da0 a1 wa0 ua0 wa1
        have e : c3 0 (memOf []) [.ro [.int .i64, .int .i64] na0 da0, .int .i64 a1] = some { v := .bool (m3 na0 da0 a1), need := [n3 na0 da0 a1] } := by kernel_rfl
        rw [hm] at e
        exact ⟨_, e, by simp [hn]⟩)
theorem cardProfileDepths (h : Rows.ProfileDepthsSaid) : Rows.ProfileDepthsCardSaid :=
  Claim7.holds_tied_plain_at .later [] [.data, .data, .data, .data, .pinned] true (true, "ab9c64a2ea49229424a100ee1f3fdfb4aa29015beaff45446d4e9c697272f457") false h (fun _ h => by cases h) (by kernel_rfl) (fun _ h => by cases h) profileDepths_row_tie rfl ⟨rfl, rfl⟩ (by kernel_rfl) rfl
    (fun f fn hf hfn => by
      obtain rfl : f = 3 := Option.some.inj ((show Tryd.prog.funcNamed "shotline/shotlinelaw02.ProfileDepths" = some 3 by kernel_rfl).symm.trans hf) |>.symm
      obtain rfl : fn = Tryd.f3 := (Option.some.inj (Tryd.func3.symm.trans hfn)).symm
      exact ⟨by kernel_rfl, fun j t ht => by
        rw [Tryd.params3] at ht
        have hm : t ∈ [22, 3] := by simpa using Array.mem_of_getElem? ht
        have hall : ([22, 3].all fun u => !Tryd.prog.wantsStandIn u) = true := by kernel_rfl
        exact (show Tryd.prog.wantsStandIn t = false by simpa using List.all_eq_true.1 hall t hm)⟩)
    (by kernel_rfl)
end Go.Proofs.YtchhhoamnagbfaaDoor

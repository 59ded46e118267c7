/-
  The row of 'ProfileDistances': from the law's contract to the row's form. Conditions: that the law's model is true, and its need.
-/
import Derived.Test.YtchhhoamnagbfaaDoorCSyX
import Derived.Test.YtchhhoamnagbfaaDoorRows
import Derived.Test.YtchhhoamnagbfaaDoorTie
import Derived.Test.YtchhhoamnagbfaaDoorCards
import Derived.LaidMore
import Derived.Lay
import Derived.Stop.Joined
import Derived.SevenTiedAt
import Derived.WalkKit
import Derived.ProofKit
import Derived.OpenShut
import Derived.Lib.SmallJoins
import Derived.Test.YtchhhoamnagbfaaDoorCPv
namespace Go.Proofs.YtchhhoamnagbfaaDoor
open Go Go.Sy Go.ChangeShapes Go.WideShapes Go.ChangeAt Go.RowKit Go.Joins Go.Deep
set_option linter.unusedVariables false
set_option maxRecDepth 100000
theorem ownProfileDistances : ownKnob Tryd.prog.godebug = none := by kernel_rfl
theorem overProfileDistances (hall : ∀ (na0 : Nat) (da0 : Dat) (na1 : Nat) (da1 : Dat) (a2 : Int), na0 ≤ maxLen → (∀ q, q < na0 → Kd.sanL [.int .i64, .int .i64] da0 q 0) → na1 ≤ maxLen → (∀ q, q < na1 → Kd.sanL [.int .i64, .int .i64] da1 q 0) → (Lit.int .i64 a2).wf = true → n5 na0 da0 na1 da1 a2 = true ∧ m5 na0 da0 na1 da1 a2 = true) : Rows.ProfileDistancesSaid :=
  OpenClaim.holds_of_wide 5 Tryd.f5 rfl rfl rfl rfl rfl rfl rfl ⟨rfl, rfl, rfl, rfl, rfl⟩ rfl rfl rfl rfl rfl (by kernel_rfl) Tryd.func5 (by kernel_rfl)
    (of_decide_eq_true (by kernel_rfl)) (by unfold Func.isWrapper; first | (rw [if_pos (by decide +kernel)]; kernel_rfl) | (rw [if_neg (by decide +kernel)]; exact ⟨rfl, rfl⟩))
    (fun os started H enc _ => law_frame (L := laidL) (C := Tryd.checked) (s := Rows.profileDistancesSpec) (tb := 4) (ss := [.c (.sl [.int .i64, .int .i64]), .c (.sl [.int .i64, .int .i64]), .c (.int .i64)]) ownProfileDistances started (by kernel_rfl) Tryd.func5
      (ChangeSpec.witness_shaped (enc := enc) (C := Tryd.checked) (os := os) (X := fun w _ => laidMetH Tryd.prog laidL w) false (World.laidAll Tryd.prog os laidL) #[.slice none 0 0, .slice none 0 0, .int .i64 0] 8 (World.laidAll_os _ _ _) (World.shaped_of_ZipB (by kernel_rfl) (by kernel_rfl)) (by kernel_rfl) (by kernel_rfl) (by kernel_rfl) (by rw [MakeChecks.laidMetH_plain _ _ _ (by kernel_rfl)]; exact laidMet_laidAll _ (by kernel_rfl) (by kernel_rfl)))
      pv_laid
      rfl rfl Tryd.underlying4 (fun H ds h => match ds, h with | [d0, d1, d2], _ => rfl) (by kernel_rfl) k5 fun us hus => by
        obtain ⟨_, _, rfl, ⟨na0, da0, rfl, wa0, ua0⟩, _, _, rfl, ⟨na1, da1, rfl, wa1, ua1⟩, _, _, rfl, ⟨a2, rfl, wa2⟩, rfl⟩ := hus
        obtain ⟨hn, hm⟩ := hall na0 da0 na1 da1 a2 wa0 ua0 wa1 ua1 wa2
        have e : c5 0 (memOf []) [.ro [.int .i64, .int .i64] na0 da0, .ro [.int .i64, .int .i64] na1 da1, .int .i64 a2] = some { v := .bool (m5 na0 da0 na1 da1 a2), need := [n5 na0 da0 na1 da1 a2] } := by kernel_rfl
        rw [hm] at e
        exact ⟨_, e, by simp [hn]⟩)
theorem cardProfileDistances (h : Rows.ProfileDistancesSaid) : Rows.ProfileDistancesCardSaid :=
  Claim7.holds_tied_plain_at .later [] [.data, .data, .data, .data, .pinned] true (true, "ab9c64a2ea49229424a100ee1f3fdfb4aa29015beaff45446d4e9c697272f457") false h (fun _ h => by cases h) (by kernel_rfl) (fun _ h => by cases h) profileDistances_row_tie rfl ⟨rfl, rfl⟩ (by kernel_rfl) rfl
    (fun f fn hf hfn => by
      obtain rfl : f = 5 := Option.some.inj ((show Tryd.prog.funcNamed "shotline/shotlinelaw02.ProfileDistances" = some 5 by kernel_rfl).symm.trans hf) |>.symm
      obtain rfl : fn = Tryd.f5 := (Option.some.inj (Tryd.func5.symm.trans hfn)).symm
      exact ⟨by kernel_rfl, fun j t ht => by
        rw [Tryd.params5] at ht
        have hm : t ∈ [22, 22, 3] := by simpa using Array.mem_of_getElem? ht
        have hall : ([22, 22, 3].all fun u => !Tryd.prog.wantsStandIn u) = true := by kernel_rfl
        exact (show Tryd.prog.wantsStandIn t = false by simpa using List.all_eq_true.1 hall t hm)⟩)
    (by kernel_rfl)
end Go.Proofs.YtchhhoamnagbfaaDoor

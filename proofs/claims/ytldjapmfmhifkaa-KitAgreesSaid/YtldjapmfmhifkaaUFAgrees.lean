/-
 The row of 'KitAgrees': from the law's contract to the row's form. Conditions: that the law's model is true, and its need.
-/
import Derived.Test.YtldjapmfmhifkaaUSyX
import Derived.Test.YtldjapmfmhifkaaRows
import Derived.WalkKit
import Derived.ProofKit
import Derived.OpenShut
import Derived.Lib.SmallJoins
import Derived.Test.YtldjapmfmhifkaaU6
namespace Go.Proofs.Ytldjapmfmhifkaa
open Go Go.Sy Go.ChangeShapes Go.WideShapes Go.ChangeAt Go.RowKit Go.Joins Go.Deep
set_option linter.unusedVariables false
set_option maxRecDepth 100000
theorem ownKitAgrees:ownKnob Try.prog.godebug=none:=by kernel_rfl
theorem overKitAgrees(hall:∀ (na0_0:Nat) (da0_0:Dat) (na0_1:Nat) (da0_1:Dat) (na1:Nat) (da1:Dat) (a2_0:ByteArray) (a2_1:Int),na0_0<=maxLen->(∀ q,q<na0_0->Kd.sanL [.str,.int .i64,.int .i64] da0_0 q 0)->na0_1<=maxLen->(∀ q,q<na0_1->Kd.sanL [.str,.int .i64,.int .i64,.int .i64] da0_1 q 0)->na1<=maxLen->(∀ q,q<na1->Kd.sanL [.int .i64,.int .i64,.str,.str,.str,.bool] da1 q 0)->a2_0.size<=maxLen->(Lit.int .i64 a2_1).wf=true->n11r na0_0 da0_0 na0_1 da0_1 na1 da1 a2_0 a2_1=true/\m11r na0_0 da0_0 na0_1 da0_1 na1 da1 a2_0 a2_1=true):Rows.KitAgreesSaid :=
 OpenClaim.holds_of_wide 11 Try.f11 rfl rfl rfl rfl rfl rfl rfl ⟨rfl,rfl,rfl,rfl,rfl⟩ rfl rfl rfl rfl rfl (by kernel_rfl) Try.func11 (by kernel_rfl)
  (of_decide_eq_true (by kernel_rfl)) (by unfold Func.isWrapper;first | (rw [if_pos (by decide +kernel)];kernel_rfl) | (rw [if_neg (by decide +kernel)];exact ⟨rfl,rfl⟩))
  (fun os started H enc _=>law_frame (C:=Try.checked) (s:=Rows.kitAgreesSpec) (tb:=4) (ss:=[.a [.sl [.str,.int .i64,.int .i64],.sl [.str,.int .i64,.int .i64,.int .i64]],.c (.sl [.int .i64,.int .i64,.str,.str,.str,.bool]),.a [.str,.int .i64]]) ownKitAgrees started (by kernel_rfl) Try.func11
   (ChangeSpec.witness6 (enc:=enc) (C:=Try.checked) false ⟨#[],#[.agg #[.slice none 0 0,.slice none 0 0],.slice none 0 0,.agg #[.string .empty,.int .i64 0]],[]⟩ 8 (by kernel_rfl) (by kernel_rfl) (by kernel_rfl) (by kernel_rfl))
   rfl rfl Try.underlying4 (fun H ds h=>match ds,h with | [d0,d1,d2],_=>rfl) (by kernel_rfl) k11r fun us hus=>by
    obtain ⟨_,_,rfl,⟨_,rfl,_,_,rfl,⟨na0_0,da0_0,rfl,wa0_0,ua0_0⟩,_,_,rfl,⟨na0_1,da0_1,rfl,wa0_1,ua0_1⟩,rfl⟩,_,_,rfl,⟨na1,da1,rfl,wa1,ua1⟩,_,_,rfl,⟨_,rfl,_,_,rfl,⟨a2_0,rfl,wa2_0⟩,_,_,rfl,⟨a2_1,rfl,wa2_1⟩,rfl⟩,rfl⟩:=hus
    obtain ⟨hn,hm⟩:=hall na0_0 da0_0 na0_1 da0_1 na1 da1 a2_0 a2_1 wa0_0 ua0_0 wa0_1 ua0_1 wa1 ua1 wa2_0 wa2_1
    have e:c11r 0 (memOf []) [.agg [.ro [.str,.int .i64,.int .i64] na0_0 da0_0,.ro [.str,.int .i64,.int .i64,.int .i64] na0_1 da0_1],.ro [.int .i64,.int .i64,.str,.str,.str,.bool] na1 da1,.agg [.str a2_0,.int .i64 a2_1]]=some { v:=.bool (m11r na0_0 da0_0 na0_1 da0_1 na1 da1 a2_0 a2_1),need:=[n11r na0_0 da0_0 na0_1 da0_1 na1 da1 a2_0 a2_1] }:=by kernel_rfl
    rw [hm] at e
    exact ⟨_,e,by simp [hn]⟩)
end Go.Proofs.Ytldjapmfmhifkaa

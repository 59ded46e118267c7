/-
 The row of 'SiteTides': from the law's contract to the row's form. Conditions: that the law's model is true, and its need.
-/
import Derived.Test.YtpfipoimpmlmoaaGreatDoorJSyX
import Derived.Test.YtpfipoimpmlmoaaGreatDoorRows
import Derived.Test.YtpfipoimpmlmoaaGreatDoorTie
import Derived.Test.YtpfipoimpmlmoaaGreatDoorCards
import Derived.LaidMore
import Derived.Lay
import Derived.Stop.Joined
import Derived.SevenTiedAt
import Derived.WalkKit
import Derived.ProofKit
import Derived.OpenShut
import Derived.Lib.SmallJoins
import Derived.Test.YtpfipoimpmlmoaaGreatDoorJPv
namespace Go.Proofs.YtpfipoimpmlmoaaGreatDoor
open Go Go.Sy Go.ChangeShapes Go.WideShapes Go.ChangeAt Go.RowKit Go.Joins Go.Deep
set_option linter.unusedVariables false
set_option maxRecDepth 100000
theorem ownSiteTides:ownKnob Tryz.prog.godebug=none:=by kernel_rfl
theorem overSiteTides (hall:∀ (a0_0:Int) (na0_1:Nat) (da0_1:Dat) (a1:ByteArray),(Lit.int .i64 a0_0).wf=true→na0_1≤maxLen→(∀ q,q<na0_1→Kd.sanL [.int .i64,.int .i64,.int .i64] da0_1 q 0)→a1.size≤maxLen→n3 a0_0 na0_1 da0_1 a1=true∧m3 a0_0 na0_1 da0_1 a1=true):Rows.SiteTidesSaid :=
 OpenClaim.holds_of_wide 3 Tryz.f3 rfl rfl rfl rfl rfl rfl rfl ⟨rfl,rfl,rfl,rfl,rfl⟩ rfl rfl rfl rfl rfl (by kernel_rfl) Tryz.func3 (by kernel_rfl)
  (of_decide_eq_true (by kernel_rfl)) (by unfold Func.isWrapper;first | (rw [if_pos (by decide +kernel)];kernel_rfl) | (rw [if_neg (by decide +kernel)];exact ⟨rfl,rfl⟩))
  (fun os started H enc _=>law_frame (L:=laidL) (C:=Tryz.checked) (s:=Rows.siteTidesSpec) (tb:=4) (ss:=[.a [.int .i64,.sl [.int .i64,.int .i64,.int .i64]],.c (.str)]) ownSiteTides started (by kernel_rfl) Tryz.func3
   (ChangeSpec.witness_shaped (enc:=enc) (C:=Tryz.checked) (os:=os) (X:=fun w _=>laidMetH Tryz.prog laidL w) false (World.laidAll Tryz.prog os laidL) #[.agg #[.int .i64 0,.slice none 0 0],.string .empty] 8 (World.laidAll_os _ _ _) (World.shaped_of_ZipB (by kernel_rfl) (by kernel_rfl)) (by kernel_rfl) (by kernel_rfl) (by kernel_rfl) (by rw [MakeChecks.laidMetH_plain _ _ _ (by kernel_rfl)];exact laidMet_laidAll _ (by kernel_rfl) (by kernel_rfl)))
   pv_laid
   rfl rfl Tryz.underlying4 (fun H ds h=>match ds,h with | [d0,d1],_=>rfl) (by kernel_rfl) k3 fun us hus=>by
    obtain ⟨_,_,rfl,⟨_,rfl,_,_,rfl,⟨a0_0,rfl,wa0_0⟩,_,_,rfl,⟨na0_1,da0_1,rfl,wa0_1,ua0_1⟩,rfl⟩,_,_,rfl,⟨a1,rfl,wa1⟩,rfl⟩:=hus
    obtain ⟨hn,hm⟩:=hall a0_0 na0_1 da0_1 a1 wa0_0 wa0_1 ua0_1 wa1
    have e:c3 0 (memOf []) [.agg [.int .i64 a0_0,.ro [.int .i64,.int .i64,.int .i64] na0_1 da0_1],.str a1]=some { v:=.bool (m3 a0_0 na0_1 da0_1 a1),need:=[n3 a0_0 na0_1 da0_1 a1] }:=by kernel_rfl
    rw [hm] at e
    exact ⟨_,e,by simp [hn]⟩)
theorem cardSiteTides (h:Rows.SiteTidesSaid):Rows.SiteTidesCardSaid :=
 Claim7.holds_tied_plain_at .later [] [.data,.data,.data,.data,.sentinel,.sentinel,.pinned] true (true,"29c6ac879f852f9085ded68a7b23473eb3ffb0439b9a7f4b348d78af58adb186") true h (fun _ h=>by cases h) (by kernel_rfl) (fun _ h=>by cases h) siteTides_row_tie rfl ⟨rfl,rfl⟩ (by kernel_rfl) rfl
  (fun f fn hf hfn=>by
   obtain rfl:f=3:=Option.some.inj ((show Tryz.prog.funcNamed "shotline/shotlinelaw08.SiteTides"=some 3 by kernel_rfl).symm.trans hf) |>.symm
   obtain rfl:fn=Tryz.f3:=(Option.some.inj (Tryz.func3.symm.trans hfn)).symm
   exact ⟨by kernel_rfl,fun j t ht=>by
    rw [Tryz.params3] at ht
    have hm:t∈[24,9]:=by simpa using Array.mem_of_getElem? ht
    have hall:([24,9].all fun u=>!Tryz.prog.wantsStandIn u)=true:=by kernel_rfl
    exact (show Tryz.prog.wantsStandIn t=false by simpa using List.all_eq_true.1 hall t hm)⟩)
  (by kernel_rfl)
end Go.Proofs.YtpfipoimpmlmoaaGreatDoor

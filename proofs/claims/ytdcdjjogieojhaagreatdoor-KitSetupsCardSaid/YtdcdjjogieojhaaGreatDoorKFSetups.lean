/-
 The row of 'KitSetups': from the law's contract to the row's form. Conditions: that the law's model is true, and its need.
-/
import Derived.Test.YtdcdjjogieojhaaGreatDoorKSyKo
import Derived.Test.YtdcdjjogieojhaaGreatDoorRows
import Derived.Test.YtdcdjjogieojhaaGreatDoorTie
import Derived.Test.YtdcdjjogieojhaaGreatDoorCards
import Derived.LaidMore
import Derived.Lay
import Derived.Stop.Joined
import Derived.SevenTiedAt
import Derived.WalkKit
import Derived.ProofKit
import Derived.OpenShut
import Derived.Lib.SmallJoins
import Derived.Test.YtdcdjjogieojhaaGreatDoorKPvS
set_option linter.unusedVariables false
set_option linter.unusedSimpArgs false
set_option linter.unusedSectionVars false
namespace Go.Proofs.YtdcdjjogieojhaaGreatDoor
open Go Go.Sy Go.ChangeShapes Go.WideShapes Go.ChangeAt Go.RowKit Go.Joins Go.Deep
set_option maxRecDepth 100000
attribute [local instance 3000] Go.Sy.G2
theorem KQ:ownKnob Tryz.prog.godebug=none:=by kernel_rfl
noncomputable def U8(os:Os):World:=let w:=World.holding Tryz.prog os ⟨#[],#[],[]⟩
 {w with heap:=⟨w.heap.toList.set 1 (.cells #[.map (some w.heap.size)] 139) ++ [.map #[⟨.bool false,.string (Hs false),0⟩,⟨.bool true,.string (Hs true),1⟩] 2]⟩ }
def Qk:List String:=["math/bits.deBruijn32tab","math/bits.deBruijn64tab","internal/strconv.uint64pow10","unicode/utf8.acceptRanges","strconv.ErrRange","strconv.ErrSyntax","shotline/kit.kinds","unicode/utf8.first"]
noncomputable def Tv(os:Os):World:=(U8 os).layVars Tryz.prog (Fj.filter fun x=>Qk.contains x.1)
noncomputable def U9:List Nat:=[1,(World.holding Tryz.prog default ⟨#[],#[],[]⟩).heap.size]
theorem Sv(os:Os)(args:Array Value):laidMetH Tryz.prog Fj ((Tv os).forCall (fun _ _=>0) ⟨#[],args,[]⟩).memory:=by
 rw [MakeChecks.laidMetH_plain _ _ _ (by kernel_rfl)]
 have h:laidMet Tryz.prog Fj (Tv os):=laidMet_layVars (w0:=U8 os) Qk U9 rfl (by kernel_rfl) (by kernel_rfl) (LaidIn.of_run U9 8 (by kernel_rfl) (by kernel_rfl) (by kernel_rfl) (by kernel_rfl))
 exact h.of_heap (by simp [World.memory,World.forCall,Input.heap])
theorem JT(hall:∀ (na0_0:Nat) (da0_0:Dat) (na0_1:Nat) (da0_1:Dat) (a1:BA),na0_0<=maxLen->(∀ q,q<na0_0->Kd.sanL [.str,.int .i64,.int .i64] da0_0 q 0)->na0_1<=maxLen->(∀ q,q<na0_1->Kd.sanL [.str,.int .i64,.int .i64,.int .i64] da0_1 q 0)->a1.size<=maxLen->n4 na0_0 da0_0 na0_1 da0_1 a1=true/\m4 na0_0 da0_0 na0_1 da0_1 a1=true):Rows.KitSetupsSaid :=
 OpenClaim.holds_of_wide 4 Tryz.f4 rfl rfl rfl rfl rfl rfl rfl ⟨rfl,rfl,rfl,rfl,rfl⟩ rfl rfl rfl rfl rfl (by kernel_rfl) Tryz.func4 (by kernel_rfl)
  (of_decide_eq_true (by kernel_rfl)) (by unfold Func.isWrapper;first | (rw [if_pos (by decide +kernel)];kernel_rfl) | (rw [if_neg (by decide +kernel)];exact ⟨rfl,rfl⟩))
  (fun os started H enc _=>Pb (L:=Fj) (C:=Tryz.checked) (s:=Rows.kitSetupsSpec) (tb:=4) (ss:=[.a [.sl [.str,.int .i64,.int .i64],.sl [.str,.int .i64,.int .i64,.int .i64]],.c (.str)]) KQ started (by kernel_rfl) Tryz.func4
   (ChangeSpec.witness_shaped (enc:=enc) (C:=Tryz.checked) (os:=os) (X:=fun w _=>laidMetH Tryz.prog Fj w) false (Tv os) #[.agg #[.slice none 0 0,.slice none 0 0],.string .empty] 8 (World.layVars_os _ _ _) (World.shaped_of_ZipB (by kernel_rfl) (by kernel_rfl)) (by kernel_rfl) (by kernel_rfl) (by kernel_rfl) (Sv os _))
   Qj
   rfl rfl Tryz.underlying4 (fun H ds h=>match ds,h with | [d0,d1],_=>rfl) (by kernel_rfl) k4 fun us hus=>by
    obtain ⟨_,_,rfl,⟨_,rfl,_,_,rfl,⟨na0_0,da0_0,rfl,wa0_0,ua0_0⟩,_,_,rfl,⟨na0_1,da0_1,rfl,wa0_1,ua0_1⟩,rfl⟩,_,_,rfl,⟨a1,rfl,wa1⟩,rfl⟩:=hus
    obtain ⟨hn,hm⟩:=hall na0_0 da0_0 na0_1 da0_1 a1 wa0_0 ua0_0 wa0_1 ua0_1 wa1
    have e:c4 0 (Ah []) [.agg [.ro [.str,.int .i64,.int .i64] na0_0 da0_0,.ro [.str,.int .i64,.int .i64,.int .i64] na0_1 da0_1],.str a1]=some { v:=.bool (m4 na0_0 da0_0 na0_1 da0_1 a1),need:=[n4 na0_0 da0_0 na0_1 da0_1 a1] }:=by kernel_rfl
    rw [hm] at e
    exact ⟨_,e,by simp [hn]⟩)
theorem JR(h:Rows.KitSetupsSaid):Rows.KitSetupsCardSaid :=
 Claim7.holds_tied_plain_at .later [] [.data,.data,.data,.data,.sentinel,.sentinel,.widerDeep,.mapped,.pinned] true (true,"21fcb06a0564999d23fa279a581ef3c1effe73f600a1d769778ec7b9215c9ccc") true h (fun _ h=>by cases h) (by kernel_rfl) (fun _ h=>by cases h) kitSetups_row_tie rfl ⟨rfl,rfl⟩ (by kernel_rfl) rfl
  (fun f fn hf hfn=>by
   obtain rfl:f=4:=Option.some.inj ((show Tryz.prog.funcNamed "shotline/shotlinelaw07.KitSetups"=some 4 by kernel_rfl).symm.trans hf) |>.symm
   obtain rfl:fn=Tryz.f4:=(Option.some.inj (Tryz.func4.symm.trans hfn)).symm
   exact ⟨by kernel_rfl,fun j t ht=>by
    rw [Tryz.params4] at ht
    have hm:t∈[25,9]:=by simpa using Array.mem_of_getElem? ht
    have hall:([25,9].all fun u=>!Tryz.prog.wantsStandIn u)=true:=by kernel_rfl
    exact (show Tryz.prog.wantsStandIn t=false by simpa using List.all_eq_true.1 hall t hm)⟩)
  (by kernel_rfl)
end Go.Proofs.YtdcdjjogieojhaaGreatDoor

/-
 The row of 'KitTexts': from the law's contract to the row's form. Conditions: that the law's model is true, and its need.
-/
import Derived.Test.YtdcdjjogieojhaaGreatDoorJSyKo
import Derived.Test.YtdcdjjogieojhaaGreatDoorRows
import Derived.Test.YtdcdjjogieojhaaGreatDoorTie
import Derived.Test.YtdcdjjogieojhaaGreatDoorCards
import Derived.LaidMore
import Derived.Lay
import Derived.Stop.Joined
import Derived.SevenTiedAt
import Derived.WalkKit
import Derived.ProofKit
import Derived.OpenShut
import Derived.Lib.SmallJoins
import Derived.Test.YtdcdjjogieojhaaGreatDoorJPv
namespace Go.Proofs.YtdcdjjogieojhaaGreatDoor
open Go Go.Sy Go.ChangeShapes Go.WideShapes Go.ChangeAt Go.RowKit Go.Joins Go.Deep
set_option linter.unusedVariables false
set_option maxRecDepth 100000
theorem ownKitTexts:ownKnob Tryz.prog.godebug=none:=by kernel_rfl
noncomputable def wit0 (os:Os):World:=let w:=World.holding Tryz.prog os ⟨#[],#[],[]⟩
 {w with heap:=⟨w.heap.toList.set 1 (.cells #[.map (some w.heap.size)] 139) ++ [.map #[⟨.bool false,.string (resW false),0⟩,⟨.bool true,.string (resW true),1⟩] 2]⟩ }
def greatL:List String:=["math/bits.deBruijn32tab","math/bits.deBruijn64tab","internal/strconv.uint64pow10","unicode/utf8.acceptRanges","strconv.ErrRange","strconv.ErrSyntax","unicode/utf8.first"]
noncomputable def wit1 (os:Os):World:=(wit0 os).layVars Tryz.prog (laidL.filter fun x=>greatL.contains x.1)
noncomputable def witB:List Nat:=[1,(World.holding Tryz.prog default ⟨#[],#[],[]⟩).heap.size]
theorem wit_met (os:Os) (args:Array Value):laidMetH Tryz.prog laidL ((wit1 os).forCall (fun _ _=>0) ⟨#[],args,[]⟩).memory:=by
 rw [MakeChecks.laidMetH_plain _ _ _ (by kernel_rfl)]
 have h:laidMet Tryz.prog laidL (wit1 os):=laidMet_layVars (w0:=wit0 os) greatL witB rfl (by kernel_rfl) (by kernel_rfl) (LaidIn.of_run witB 8 (by kernel_rfl) (by kernel_rfl) (by kernel_rfl) (by kernel_rfl))
 exact h.of_heap (by simp [World.memory,World.forCall,Input.heap])
theorem overKitTexts (hall:∀ (na0_0:Nat) (da0_0:Dat) (na0_1:Nat) (da0_1:Dat) (a1_0:Int) (a1_1:Int) (a1_2:ByteArray) (a1_3:ByteArray) (a1_4:ByteArray) (a1_5:Bool) (a2:ByteArray),na0_0≤maxLen→(∀ q,q<na0_0→Kd.sanL [.str,.int .i64,.int .i64] da0_0 q 0)→na0_1≤maxLen→(∀ q,q<na0_1→Kd.sanL [.str,.int .i64,.int .i64,.int .i64] da0_1 q 0)→(Lit.int .i64 a1_0).wf=true→(Lit.int .i64 a1_1).wf=true→a1_2.size≤maxLen→a1_3.size≤maxLen→a1_4.size≤maxLen→a2.size≤maxLen→n3 na0_0 da0_0 na0_1 da0_1 a1_0 a1_1 a1_2 a1_3 a1_4 a1_5 a2=true∧m3 na0_0 da0_0 na0_1 da0_1 a1_0 a1_1 a1_2 a1_3 a1_4 a1_5 a2=true):Rows.KitTextsSaid :=
 OpenClaim.holds_of_wide 3 Tryz.f3 rfl rfl rfl rfl rfl rfl rfl ⟨rfl,rfl,rfl,rfl,rfl⟩ rfl rfl rfl rfl rfl (by kernel_rfl) Tryz.func3 (by kernel_rfl)
  (of_decide_eq_true (by kernel_rfl)) (by unfold Func.isWrapper;first | (rw [if_pos (by decide +kernel)];kernel_rfl) | (rw [if_neg (by decide +kernel)];exact ⟨rfl,rfl⟩))
  (fun os started H enc _=>law_frame (L:=laidL) (C:=Tryz.checked) (s:=Rows.kitTextsSpec) (tb:=4) (ss:=[.a [.sl [.str,.int .i64,.int .i64],.sl [.str,.int .i64,.int .i64,.int .i64]],.a [.int .i64,.int .i64,.str,.str,.str,.bool],.c (.str)]) ownKitTexts started (by kernel_rfl) Tryz.func3
   (ChangeSpec.witness_shaped (enc:=enc) (C:=Tryz.checked) (os:=os) (X:=fun w _=>laidMetH Tryz.prog laidL w) false (wit1 os) #[.agg #[.slice none 0 0,.slice none 0 0],.agg #[.int .i64 0,.int .i64 0,.string .empty,.string .empty,.string .empty,.bool false],.string .empty] 8 (World.layVars_os _ _ _) (World.shaped_of_ZipB (by kernel_rfl) (by kernel_rfl)) (by kernel_rfl) (by kernel_rfl) (by kernel_rfl) (wit_met os _))
   glb_laid
   rfl rfl Tryz.underlying4 (fun H ds h=>match ds,h with | [d0,d1,d2],_=>rfl) (by kernel_rfl) k3 fun us hus=>by
    obtain ⟨_,_,rfl,⟨_,rfl,_,_,rfl,⟨na0_0,da0_0,rfl,wa0_0,ua0_0⟩,_,_,rfl,⟨na0_1,da0_1,rfl,wa0_1,ua0_1⟩,rfl⟩,_,_,rfl,⟨_,rfl,_,_,rfl,⟨a1_0,rfl,wa1_0⟩,_,_,rfl,⟨a1_1,rfl,wa1_1⟩,_,_,rfl,⟨a1_2,rfl,wa1_2⟩,_,_,rfl,⟨a1_3,rfl,wa1_3⟩,_,_,rfl,⟨a1_4,rfl,wa1_4⟩,_,_,rfl,⟨a1_5,rfl⟩,rfl⟩,_,_,rfl,⟨a2,rfl,wa2⟩,rfl⟩:=hus
    obtain ⟨hn,hm⟩:=hall na0_0 da0_0 na0_1 da0_1 a1_0 a1_1 a1_2 a1_3 a1_4 a1_5 a2 wa0_0 ua0_0 wa0_1 ua0_1 wa1_0 wa1_1 wa1_2 wa1_3 wa1_4 wa2
    have e:c3 0 (memOf []) [.agg [.ro [.str,.int .i64,.int .i64] na0_0 da0_0,.ro [.str,.int .i64,.int .i64,.int .i64] na0_1 da0_1],.agg [.int .i64 a1_0,.int .i64 a1_1,.str a1_2,.str a1_3,.str a1_4,.bool a1_5],.str a2]=some { v:=.bool (m3 na0_0 da0_0 na0_1 da0_1 a1_0 a1_1 a1_2 a1_3 a1_4 a1_5 a2),need:=[n3 na0_0 da0_0 na0_1 da0_1 a1_0 a1_1 a1_2 a1_3 a1_4 a1_5 a2] }:=by kernel_rfl
    rw [hm] at e
    exact ⟨_,e,by simp [hn]⟩)
theorem cardKitTexts (h:Rows.KitTextsSaid):Rows.KitTextsCardSaid :=
 Claim7.holds_tied_plain_at .later [] [.data,.data,.data,.data,.sentinel,.sentinel,.mapped,.pinned] true (true,"21fcb06a0564999d23fa279a581ef3c1effe73f600a1d769778ec7b9215c9ccc") true h (fun _ h=>by cases h) (by kernel_rfl) (fun _ h=>by cases h) kitTexts_row_tie rfl ⟨rfl,rfl⟩ (by kernel_rfl) rfl
  (fun f fn hf hfn=>by
   obtain rfl:f=3:=Option.some.inj ((show Tryz.prog.funcNamed "shotline/shotlinelaw07.KitTexts"=some 3 by kernel_rfl).symm.trans hf) |>.symm
   obtain rfl:fn=Tryz.f3:=(Option.some.inj (Tryz.func3.symm.trans hfn)).symm
   exact ⟨by kernel_rfl,fun j t ht=>by
    rw [Tryz.params3] at ht
    have hm:t∈[25,27,9]:=by simpa using Array.mem_of_getElem? ht
    have hall:([25,27,9].all fun u=>!Tryz.prog.wantsStandIn u)=true:=by kernel_rfl
    exact (show Tryz.prog.wantsStandIn t=false by simpa using List.all_eq_true.1 hall t hm)⟩)
  (by kernel_rfl)
end Go.Proofs.YtdcdjjogieojhaaGreatDoor

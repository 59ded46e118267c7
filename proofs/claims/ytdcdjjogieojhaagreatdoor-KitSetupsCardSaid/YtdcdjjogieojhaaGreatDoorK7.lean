/-
 Contracts of functions: models, equations by the kernel, contracts. Conditions: none.
-/
import Derived.Test.YtdcdjjogieojhaaGreatDoorK6
import Derived.KernelRfl
set_option linter.unusedVariables false
set_option linter.unusedSimpArgs false
set_option linter.unusedSectionVars false
namespace Go.Proofs.YtdcdjjogieojhaaGreatDoor
open Go Go.Sy Go.RowKit Go.ChangeMaps
noncomputable section
set_option maxRecDepth 100000
set_option maxHeartbeats 2000000
attribute [local instance 2000] Go.Sy.G0
/-! ### helpers: awake,by hand -/
def KA:Kst:=⟨4,m22.fst,2,m22.snd⟩
theorem TY:Ih KA (CO KA m23 0) 2 5 (m23.ss 0 2) (m23.ss 0 3) (m23.ss 0 4) (m23.bb 0 5):=by
 refine ⟨by kernel_rfl,fun _=>⟨1,by decide,?_,fun e=>by simp at e,fun _=>⟨0,by decide,by decide,?_,by decide⟩,fun e=>by simp at e⟩⟩
 .kernel_rfl
 .kernel_rfl
theorem J7:Ih KA (CO KA m23 1) 2 6 (m23.ss 1 2) (m23.ss 1 3) (m23.ss 1 4) (m23.bb 1 5):=by
 refine ⟨by kernel_rfl,fun _=>⟨2,by decide,?_,fun e=>by simp at e,fun _=>⟨1,by decide,by decide,?_,?_⟩,fun e=>by simp at e⟩⟩
 .kernel_rfl
 .kernel_rfl
 .exact Nat.le_of_ble_eq_true (by kernel_rfl)
theorem TZ:Ih KA (CO KA m23 2) 4 7 (m23.ss 2 2) (m23.ss 2 3) (m23.ss 2 4) (m23.bb 2 5):=by
 refine ⟨by kernel_rfl,fun _=>⟨0,by decide,?_,fun e=>by simp at e,fun e=>by simp at e,fun _=>?_⟩⟩
 .kernel_rfl
 .exact Nat.le_of_ble_eq_true (by kernel_rfl)
theorem n56_a:n56 4 m22.fst 2 m22.snd 3 m23=true:=by
 unfold n56
 rw [show n16 4 m22.fst 2 m22.snd=true by kernel_rfl,Rk]
 .rfl
 .intro _ _ i hi _
  match i,hi with
  | 0,_=>exact TY
  | 1,_=>exact J7
  | 2,_=>exact TZ
theorem n56_b:n56 4 m22.fst 2 m22.snd 0 A3=true:=by
 unfold n56
 rw [show n16 4 m22.fst 2 m22.snd=true by kernel_rfl,Rk]
 .rfl
 .intro _ _ i hi _
  omega
theorem m5_t:m5=true:=by kernel_rfl
theorem n5_t:n5=true:=by
 unfold n5 n21 n24 n25
 rw [n56_a,n56_b]
 kernel_rfl
theorem Ui(w:World):Ea w:=⟨pv0 w,fun _=>gl0 _⟩
theorem Lq(w:World):Calls Tryz.prog 5 #[] w fun e w'=>e=.returned (.bool true)/\Below w.heap.size w w' :=
 haveI:=Ui w
 K7 (args:=[]) (xs:=[]) k5 (b:=m5) (ns:=[n5]) rfl m5_t (fun n hn=>by simp at hn;rw [hn];exact n5_t) trivial
end
end Go.Proofs.YtdcdjjogieojhaaGreatDoor

/-
 Contracts of functions: models, equations by the kernel, contracts. Conditions: none.
-/
import Derived.Test.YtldjapmfmhifkaaR1
import Derived.KernelRfl
namespace Go.Proofs.Ytldjapmfmhifkaa
open Go Go.Sy
noncomputable section
set_option linter.unusedVariables false
set_option linter.unusedSimpArgs false
set_option maxRecDepth 100000
set_option maxHeartbeats 2000000
attribute [local irreducible] Go.IntKind.wrap Int.tdiv Int.tmod Int.fdiv
open Go.Sy renaming tabOk_cons→tc,tabOk_nil→tn,cnd_need→cn,leaf_of→lf,cnd_gg→cg,cnd_gg2→ch,cond_f→cf,cond_t→ct,cnd_of→co,callOf→ca,roundOf→ro,cnd_not→nn,lams_cons→lc,lams_nil→ln,condT→cT,condF→cF,need1→n1,resOf→rs,and_l→al,and_r→ar,or_gg→og,ctr_of→cx,loop_blk→lb
open Go.IntKind renaming i64→Z
open Go.Sy.SV renaming int→V
open Go.Sy.Kd renaming int→W
def bt14413_0:ByteArray:={ data:=(([0,1,2,2,3,3,3,3,4,4,4,4,4,4,4,4,5,5,5,5,5,5,5,5,5,5,5,5,5,5,5,5,6,6,6,6,6,6,6,6,6,6,6,6,6,6,6,6,6,6,6,6,6,6,6,6,6,6,6,6,6,6,6,6].append [7,7,7,7,7,7,7,7,7,7,7,7,7,7,7,7,7,7,7,7,7,7,7,7,7,7,7,7,7,7,7,7,7,7,7,7,7,7,7,7,7,7,7,7,7,7,7,7,7,7,7,7,7,7,7,7,7,7,7,7,7,7,7,7]).append ([8,8,8,8,8,8,8,8,8,8,8,8,8,8,8,8,8,8,8,8,8,8,8,8,8,8,8,8,8,8,8,8,8,8,8,8,8,8,8,8,8,8,8,8,8,8,8,8,8,8,8,8,8,8,8,8,8,8,8,8,8,8,8,8].append [8,8,8,8,8,8,8,8,8,8,8,8,8,8,8,8,8,8,8,8,8,8,8,8,8,8,8,8,8,8,8,8,8,8,8,8,8,8,8,8,8,8,8,8,8,8,8,8,8,8,8,8,8,8,8,8,8,8,8,8,8,8,8,8])).toArray }
def bt19670_1:ByteArray:={ data:=#[0,1,2,2,3,3,3,3,4,4,4,4,4,4,4,4,5,5,5,5,5,5,5,5,5,5,5,5,5,5,5,5,6,6,6,6,6,6,6,6,6,6,6,6,6,6,6,6,6,6,6,6,6,6,6,6,6,6,6,6,6,6,6,6,7,7,7,7,7,7,7,7,7,7,7,7,7,7,7,7,7,7,7,7,7,7,7,7,7,7,7,7,7,7,7,7,7,7,7,7,7,7,7,7,7,7,7,7,7,7,7,7,7,7,7,7,7,7,7,7,7,7,7,7,7,7,7,7,8,8,8,8,8,8,8,8,8,8,8,8,8,8,8,8,8,8,8,8,8,8,8,8,8,8,8,8,8,8,8,8,8,8,8,8,8,8,8,8,8,8,8,8,8,8,8,8,8,8,8,8,8,8,8,8,8,8,8,8,8,8,8,8,8,8,8,8,8,8,8,8,8,8,8,8,8,8,8,8,8,8,8,8,8,8,8,8,8,8,8,8,8,8,8,8,8,8,8,8,8,8,8,8,8,8,8,8,8,8,8,8,8,8,8,8,8,8,8,8,8,8,8,8,8,8,8,8] }
def bt48795_2:ByteArray:={ data:=(([(0:UInt8),(1:UInt8),(2:UInt8),(2:UInt8),(3:UInt8),(3:UInt8),(3:UInt8),(3:UInt8),(4:UInt8),(4:UInt8),(4:UInt8),(4:UInt8),(4:UInt8),(4:UInt8),(4:UInt8),(4:UInt8),(5:UInt8),(5:UInt8),(5:UInt8),(5:UInt8),(5:UInt8),(5:UInt8),(5:UInt8),(5:UInt8),(5:UInt8),(5:UInt8),(5:UInt8),(5:UInt8),(5:UInt8),(5:UInt8),(5:UInt8),(5:UInt8),(6:UInt8),(6:UInt8),(6:UInt8),(6:UInt8),(6:UInt8),(6:UInt8),(6:UInt8),(6:UInt8),(6:UInt8),(6:UInt8),(6:UInt8),(6:UInt8),(6:UInt8),(6:UInt8),(6:UInt8),(6:UInt8),(6:UInt8),(6:UInt8),(6:UInt8),(6:UInt8),(6:UInt8),(6:UInt8),(6:UInt8),(6:UInt8),(6:UInt8),(6:UInt8),(6:UInt8),(6:UInt8),(6:UInt8),(6:UInt8),(6:UInt8),(6:UInt8)].append [(7:UInt8),(7:UInt8),(7:UInt8),(7:UInt8),(7:UInt8),(7:UInt8),(7:UInt8),(7:UInt8),(7:UInt8),(7:UInt8),(7:UInt8),(7:UInt8),(7:UInt8),(7:UInt8),(7:UInt8),(7:UInt8),(7:UInt8),(7:UInt8),(7:UInt8),(7:UInt8),(7:UInt8),(7:UInt8),(7:UInt8),(7:UInt8),(7:UInt8),(7:UInt8),(7:UInt8),(7:UInt8),(7:UInt8),(7:UInt8),(7:UInt8),(7:UInt8),(7:UInt8),(7:UInt8),(7:UInt8),(7:UInt8),(7:UInt8),(7:UInt8),(7:UInt8),(7:UInt8),(7:UInt8),(7:UInt8),(7:UInt8),(7:UInt8),(7:UInt8),(7:UInt8),(7:UInt8),(7:UInt8),(7:UInt8),(7:UInt8),(7:UInt8),(7:UInt8),(7:UInt8),(7:UInt8),(7:UInt8),(7:UInt8),(7:UInt8),(7:UInt8),(7:UInt8),(7:UInt8),(7:UInt8),(7:UInt8),(7:UInt8),(7:UInt8)]).append ([(8:UInt8),(8:UInt8),(8:UInt8),(8:UInt8),(8:UInt8),(8:UInt8),(8:UInt8),(8:UInt8),(8:UInt8),(8:UInt8),(8:UInt8),(8:UInt8),(8:UInt8),(8:UInt8),(8:UInt8),(8:UInt8),(8:UInt8),(8:UInt8),(8:UInt8),(8:UInt8),(8:UInt8),(8:UInt8),(8:UInt8),(8:UInt8),(8:UInt8),(8:UInt8),(8:UInt8),(8:UInt8),(8:UInt8),(8:UInt8),(8:UInt8),(8:UInt8),(8:UInt8),(8:UInt8),(8:UInt8),(8:UInt8),(8:UInt8),(8:UInt8),(8:UInt8),(8:UInt8),(8:UInt8),(8:UInt8),(8:UInt8),(8:UInt8),(8:UInt8),(8:UInt8),(8:UInt8),(8:UInt8),(8:UInt8),(8:UInt8),(8:UInt8),(8:UInt8),(8:UInt8),(8:UInt8),(8:UInt8),(8:UInt8),(8:UInt8),(8:UInt8),(8:UInt8),(8:UInt8),(8:UInt8),(8:UInt8),(8:UInt8),(8:UInt8)].append [(8:UInt8),(8:UInt8),(8:UInt8),(8:UInt8),(8:UInt8),(8:UInt8),(8:UInt8),(8:UInt8),(8:UInt8),(8:UInt8),(8:UInt8),(8:UInt8),(8:UInt8),(8:UInt8),(8:UInt8),(8:UInt8),(8:UInt8),(8:UInt8),(8:UInt8),(8:UInt8),(8:UInt8),(8:UInt8),(8:UInt8),(8:UInt8),(8:UInt8),(8:UInt8),(8:UInt8),(8:UInt8),(8:UInt8),(8:UInt8),(8:UInt8),(8:UInt8),(8:UInt8),(8:UInt8),(8:UInt8),(8:UInt8),(8:UInt8),(8:UInt8),(8:UInt8),(8:UInt8),(8:UInt8),(8:UInt8),(8:UInt8),(8:UInt8),(8:UInt8),(8:UInt8),(8:UInt8),(8:UInt8),(8:UInt8),(8:UInt8),(8:UInt8),(8:UInt8),(8:UInt8),(8:UInt8),(8:UInt8),(8:UInt8),(8:UInt8),(8:UInt8),(8:UInt8),(8:UInt8),(8:UInt8),(8:UInt8),(8:UInt8),(8:UInt8)])).toArray }
/-! ### shotline/shotlineref07.Reasons -/
def l25_0 (p:Nat) (u:Dat) (M N:Int) (t:Nat) (v:Dat) (o:Nat) (n:Dat) (x:ByteArray) (w y:Int):Nat→Nat→Int→Dat→Option (Nat × Nat × Dat)
 | 0,_,_,_=>none
 | f+1,D,C,A=>(cond (decide (C<(↑o:Int))) (cond (decide (0≤C∧C<↑o)) (cond (bif (decide ((n.ii C.toNat 1)=w)) then false else true) (l25_0 p u M N t v o n x w y f D (Z.wrap (C+1)) A) (cond (n69 t v o n p u M C) (cond (bif (m69 t v o n p u M C).2.2 then false else true) (cond (decide ((D+1)≤1073741824)) (l25_0 p u M N t v o n x w y f (D+1) (Z.wrap (C+1)) (A.app D (datS [V Z 0,SV.str (n.ss C.toNat 0),SV.str ({ data:=#[] }:ByteArray),V Z 0] 4))) none) (cond (bif (bif (decide ((n.ii C.toNat 2)=0)) then false else true) then (decide ((Z.wrap ((m69 t v o n p u M C).1+(n.ii C.toNat 2)))<N)) else false) (cond (decide ((D+1)≤1073741824)) (l25_0 p u M N t v o n x w y f (D+1) (Z.wrap (C+1)) (A.app D (datS [V Z 1,SV.str (n.ss C.toNat 0),SV.str ({ data:=#[] }:ByteArray),V Z 0] 4))) none) (cond (bif (bif (decide ((n.ii C.toNat 3)=0)) then false else true) then (decide ((n.ii C.toNat 3)≤(m69 t v o n p u M C).2.1)) else false) (cond (decide ((D+1)≤1073741824)) (l25_0 p u M N t v o n x w y f (D+1) (Z.wrap (C+1)) (A.app D (datS [V Z 2,SV.str (n.ss C.toNat 0),SV.str ({ data:=#[] }:ByteArray),V Z 0] 4))) none) (l25_0 p u M N t v o n x w y f D (Z.wrap (C+1)) A)))) none)) none) (some (D,D,A)))
abbrev o25_0 (p:Nat) (u:Dat) (M N:Int) (t:Nat) (v:Dat) (o:Nat) (n:Dat) (x:ByteArray) (w y:Int) (D:Nat) (C:Int) (A:Dat):Option (Nat × Nat × Dat):=l25_0 p u M N t v o n x w y (p+M.toNat+N.toNat+D+C.toNat+t+o+x.size+w.toNat+y.toNat+8) D C A
def e25_0 (p:Nat) (u:Dat) (M N:Int) (t:Nat) (v:Dat) (o:Nat) (n:Dat) (x:ByteArray) (w y:Int) (r:Nat × Nat × Dat) (K:XR):Prop:=K (XE.exit 0) [.ro [W Z,W Z,.str,.str,.str,.bool] p u,.ptr 0 0,.gr 2 4 r.1,.ptr 1 0] [.cells 25 [.ro [.str,W Z,W Z] t v,.ro [.str,W Z,W Z,W Z] o n],.cells 65 [.str x,V Z w,V Z y],.row 49 [W Z,.str,.str,W Z] r.2.1 r.2.2]
def g25_0:LSum:=fun s k=>match czv 0 149 [1,2,3,4,9,10,11] 3 [⟨true,9,0,2,49,[W Z,.str,.str,W Z]⟩] s with
 | some ([.ro [W Z,W Z,.str,.str,.str,.bool] p u,V Z M,V Z N,.ptr 0 0,.gr 2 4 D,.ptr 1 0,V Z C],[.cells 25 [.ro [.str,W Z,W Z] t v,.ro [.str,W Z,W Z,W Z] o n],.cells 65 [.str x,V Z w,V Z y],.row 49 [W Z,.str,.str,W Z] L A])=>needs [decide (D=L),(o25_0 p u M N t v o n x w y D C A).isSome] (e25_0 p u M N t v o n x w y ((o25_0 p u M N t v o n x w y D C A).getD default) fun e vs bs=>inBlk 0 k e (mkSt 0 149 [1,4,9,10] vs 3 bs))
 | _=>False
theorem z25_0:LOk Try.prog g25_0 (.block 0 (bodyAt (Try.f25.body.getD .skip) 0)):=by
 refine lb (ι:=Nat × Dat × Int × Int × Nat × Int × Nat × Dat × Nat × Dat × ByteArray × Int × Int × Dat) (fuel:=8) (na:=0) (nt:=149) (nx:=3) (Lh:=[1,2,3,4,9,10,11]) (Le:=[1,4,9,10]) (gl:=[⟨true,9,0,2,49,[W Z,.str,.str,W Z]⟩]) (tc k33 (tc k36 (tc k46 (tc k69 (tc k70 tn))))) mix_ok noLam rfl (fun f (p,u,M,N,D,C,t,v,o,n,x,w,y,A) K=>GG default (e25_0 p u M N t v o n x w y) K (l25_0 p u M N t v o n x w y f D C A)) (fun (p,u,M,N,D,C,t,v,o,n,x,w,y,A)=>[.ro [W Z,W Z,.str,.str,.str,.bool] p u,V Z M,V Z N,.ptr 0 0,.gr 2 4 D,.ptr 1 0,V Z C]) (fun (p,u,M,N,D,C,t,v,o,n,x,w,y,A)=>[.cells 25 [.ro [.str,W Z,W Z] t v,.ro [.str,W Z,W Z,W Z] o n],.cells 65 [.str x,V Z w,V Z y],.row 49 [W Z,.str,.str,W Z] D A]) (fun (_,_,_,_,_,_,_,_,_,_,_,_,_,_) K=>gg_none) ?_ ?_
 ·rintro f ⟨p,u,M,N,D,C,t,v,o,n,x,w,y,A⟩ K hG
  refine ro (fun R => 
 let a0:=(decide ((D+1)≤1073741824))
 let b0:=({ data:=#[] }:ByteArray)
 (cnd (decide (C<(↑o:Int)))
 (cnd (decide (0≤C∧C<↑o))
 (cnd (bif (decide ((n.ii C.toNat 1)=w)) then false else true)
 (R (XE.normal) [.ro [W Z,W Z,.str,.str,.str,.bool] p u,V Z M,V Z N,.ptr 0 0,.gr 2 4 D,.ptr 1 0,V Z (Z.wrap (C+1))] [.cells 25 [.ro [.str,W Z,W Z] t v,.ro [.str,W Z,W Z,W Z] o n],.cells 65 [.str x,V Z w,V Z y],.row 49 [W Z,.str,.str,W Z] D A])
 (cnd (n69 t v o n p u M C)
 (cnd (bif (m69 t v o n p u M C).2.2 then false else true)
 (cnd (decide (D≤D))
 (cnd a0
 (R (XE.normal) [.ro [W Z,W Z,.str,.str,.str,.bool] p u,V Z M,V Z N,.ptr 0 0,.gr 2 4 (D+1),.ptr 1 0,V Z (Z.wrap (C+1))] [.cells 25 [.ro [.str,W Z,W Z] t v,.ro [.str,W Z,W Z,W Z] o n],.cells 65 [.str x,V Z w,V Z y],.row 49 [W Z,.str,.str,W Z] (D+1) (A.app D (datS [V Z 0,SV.str (n.ss C.toNat 0),SV.str b0,V Z 0] 4))])
    False)
    False)
 (cnd (bif (bif (decide ((n.ii C.toNat 2)=0)) then false else true) then (decide ((Z.wrap ((m69 t v o n p u M C).1+(n.ii C.toNat 2)))<N)) else false)
 (cnd (decide (D≤D))
 (cnd a0
 (R (XE.normal) [.ro [W Z,W Z,.str,.str,.str,.bool] p u,V Z M,V Z N,.ptr 0 0,.gr 2 4 (D+1),.ptr 1 0,V Z (Z.wrap (C+1))] [.cells 25 [.ro [.str,W Z,W Z] t v,.ro [.str,W Z,W Z,W Z] o n],.cells 65 [.str x,V Z w,V Z y],.row 49 [W Z,.str,.str,W Z] (D+1) (A.app D (datS [V Z 1,SV.str (n.ss C.toNat 0),SV.str b0,V Z 0] 4))])
     False)
    False)
 (cnd (bif (bif (decide ((n.ii C.toNat 3)=0)) then false else true) then (decide ((n.ii C.toNat 3)≤(m69 t v o n p u M C).2.1)) else false)
 (cnd (decide (D≤D))
 (cnd a0
 (R (XE.normal) [.ro [W Z,W Z,.str,.str,.str,.bool] p u,V Z M,V Z N,.ptr 0 0,.gr 2 4 (D+1),.ptr 1 0,V Z (Z.wrap (C+1))] [.cells 25 [.ro [.str,W Z,W Z] t v,.ro [.str,W Z,W Z,W Z] o n],.cells 65 [.str x,V Z w,V Z y],.row 49 [W Z,.str,.str,W Z] (D+1) (A.app D (datS [V Z 2,SV.str (n.ss C.toNat 0),SV.str b0,V Z 0] 4))])
     False)
     False)
 (R (XE.normal) [.ro [W Z,W Z,.str,.str,.str,.bool] p u,V Z M,V Z N,.ptr 0 0,.gr 2 4 D,.ptr 1 0,V Z (Z.wrap (C+1))] [.cells 25 [.ro [.str,W Z,W Z] t v,.ro [.str,W Z,W Z,W Z] o n],.cells 65 [.str x,V Z w,V Z y],.row 49 [W Z,.str,.str,W Z] D A]))))
   False))
  False)
 (R (XE.exit 0) [.ro [W Z,W Z,.str,.str,.str,.bool] p u,.ptr 0 0,.gr 2 4 D,.ptr 1 0] [.cells 25 [.ro [.str,W Z,W Z] t v,.ro [.str,W Z,W Z,W Z] o n],.cells 65 [.str x,V Z w,V Z y],.row 49 [W Z,.str,.str,W Z] D A]))) (fun R=>by kernel_rfl) ?_
  exact ch hG (fun h0=>cg h0 fun h1=>ch h1 (fun h2=>⟨(_,_,_,_,_,_,_,_,_,_,_,_,_,_),rfl,rfl,h2⟩) (fun h2=>cg h2 fun h3=>ch h3 (fun h4=>cn (decide_eq_true (Nat.le_refl _)) (cg h4 fun h5=>⟨(_,_,_,_,_,_,_,_,_,_,_,_,_,_),rfl,rfl,h5⟩)) (fun h4=>ch h4 (fun h5=>cn (decide_eq_true (Nat.le_refl _)) (cg h5 fun h6=>⟨(_,_,_,_,_,_,_,_,_,_,_,_,_,_),rfl,rfl,h6⟩)) (fun h5=>ch h5 (fun h6=>cn (decide_eq_true (Nat.le_refl _)) (cg h6 fun h7=>⟨(_,_,_,_,_,_,_,_,_,_,_,_,_,_),rfl,rfl,h7⟩)) (fun h6=>⟨(_,_,_,_,_,_,_,_,_,_,_,_,_,_),rfl,rfl,h6⟩))))) (fun h0=>h0.2)
 ·intro s k h
  unfold g25_0 at h
  split at h <;> try exact h.elim
  rename_i e1
  rw [needs_iff] at h
  have hq:=h.1
  simp only [List.mem_cons,forall_eq_or_imp,decide_eq_true_eq,List.not_mem_nil,false_imp_iff,implies_true,and_true] at hq
  obtain ⟨rfl,hq⟩:=hq
  exact ⟨_,e1,_,(_,_,_,_,_,_,_,_,_,_,_,_,_,_),rfl,rfl,hq,h.2⟩
def l25_3 (p:Nat) (u:Dat) (G:Nat) (J:Dat) (F:Nat) (E:Dat) (t:Nat) (v:Dat) (o:Nat) (n:Dat) (x:ByteArray) (w y:Int):Nat→Nat→Int→Nat→Dat→Option (Nat × Nat × Dat)
 | 0,_,_,_,_=>none
 | f+1,D,I,L,A=>(cond (decide (I<(↑F:Int))) (cond (decide (0≤I∧I<↑F)) (cond (n70 G J (E.ss I.toNat 0) (E.ii I.toNat 1)) (cond (m70 G J (E.ss I.toNat 0) (E.ii I.toNat 1)) (cond (decide (0≤I∧I<↑F)) (cond (decide (D≤L)) (cond (decide ((D+1)≤1073741824)) (l25_3 p u G J F E t v o n x w y f (D+1) (Z.wrap (I+1)) (D+1) (A.app D (datS [V Z 3,SV.str ({ data:=#[] }:ByteArray),SV.str (E.ss I.toNat 0),V Z (E.ii I.toNat 1)] 4))) none) none) none) (l25_3 p u G J F E t v o n x w y f D (Z.wrap (I+1)) L A)) none) none) (some (D,L,A)))
abbrev o25_3 (p:Nat) (u:Dat) (G:Nat) (J:Dat) (F:Nat) (E:Dat) (t:Nat) (v:Dat) (o:Nat) (n:Dat) (x:ByteArray) (w y:Int) (D:Nat) (I:Int) (L:Nat) (A:Dat):Option (Nat × Nat × Dat):=l25_3 p u G J F E t v o n x w y (p+D+G+F+I.toNat+t+o+x.size+w.toNat+y.toNat+L+8) D I L A
def e25_3 (p:Nat) (u:Dat) (G:Nat) (J:Dat) (F:Nat) (E:Dat) (t:Nat) (v:Dat) (o:Nat) (n:Dat) (x:ByteArray) (w y:Int) (r:Nat × Nat × Dat) (K:XR):Prop:=K (XE.exit 3) [.ro [W Z,W Z,.str,.str,.str,.bool] p u,.gr 2 4 r.1,.ptr 1 0] [.cells 25 [.ro [.str,W Z,W Z] t v,.ro [.str,W Z,W Z,W Z] o n],.cells 65 [.str x,V Z w,V Z y],.row 49 [W Z,.str,.str,W Z] r.2.1 r.2.2]
def g25_3:LSum:=fun s k=>match czv 0 149 [1,9,10,14,15,17] 3 [⟨true,9,0,2,49,[W Z,.str,.str,W Z]⟩] s with
 | some ([.ro [W Z,W Z,.str,.str,.str,.bool] p u,.gr 2 4 D,.ptr 1 0,.ro [.str,W Z] G J,.ro [.str,W Z] F E,V Z I],[.cells 25 [.ro [.str,W Z,W Z] t v,.ro [.str,W Z,W Z,W Z] o n],.cells 65 [.str x,V Z w,V Z y],.row 49 [W Z,.str,.str,W Z] L A])=>needs [(o25_3 p u G J F E t v o n x w y D I L A).isSome] (e25_3 p u G J F E t v o n x w y ((o25_3 p u G J F E t v o n x w y D I L A).getD default) fun e vs bs=>inBlk 3 k e (mkSt 0 149 [1,9,10] vs 3 bs))
 | _=>False
theorem z25_3:LOk Try.prog g25_3 (.block 3 (bodyAt (Try.f25.body.getD .skip) 3)):=by
 refine lb (ι:=Nat × Dat × Nat × Nat × Dat × Nat × Dat × Int × Nat × Dat × Nat × Dat × ByteArray × Int × Int × Nat × Dat) (fuel:=8) (na:=0) (nt:=149) (nx:=3) (Lh:=[1,9,10,14,15,17]) (Le:=[1,9,10]) (gl:=[⟨true,9,0,2,49,[W Z,.str,.str,W Z]⟩]) (tc k33 (tc k36 (tc k46 (tc k69 (tc k70 tn))))) mix_ok (lam_of rfl (lc z25_0 ln)) rfl (fun f (p,u,D,G,J,F,E,I,t,v,o,n,x,w,y,L,A) K=>GG default (e25_3 p u G J F E t v o n x w y) K (l25_3 p u G J F E t v o n x w y f D I L A)) (fun (p,u,D,G,J,F,E,I,t,v,o,n,x,w,y,L,A)=>[.ro [W Z,W Z,.str,.str,.str,.bool] p u,.gr 2 4 D,.ptr 1 0,.ro [.str,W Z] G J,.ro [.str,W Z] F E,V Z I]) (fun (p,u,D,G,J,F,E,I,t,v,o,n,x,w,y,L,A)=>[.cells 25 [.ro [.str,W Z,W Z] t v,.ro [.str,W Z,W Z,W Z] o n],.cells 65 [.str x,V Z w,V Z y],.row 49 [W Z,.str,.str,W Z] L A]) (fun (_,_,_,_,_,_,_,_,_,_,_,_,_,_,_,_,_) K=>gg_none) ?_ ?_
 ·rintro f ⟨p,u,D,G,J,F,E,I,t,v,o,n,x,w,y,L,A⟩ K hG
  refine ro (fun R=>(cnd (decide (I<(↑F:Int)))
 (cnd (decide (0≤I∧I<↑F))
 (cnd (n70 G J (E.ss I.toNat 0) (E.ii I.toNat 1))
 (cnd (m70 G J (E.ss I.toNat 0) (E.ii I.toNat 1))
 (cnd (decide (0≤I∧I<↑F))
 (cnd (decide (D≤L))
 (cnd (decide ((D+1)≤1073741824))
 (R (XE.normal) [.ro [W Z,W Z,.str,.str,.str,.bool] p u,.gr 2 4 (D+1),.ptr 1 0,.ro [.str,W Z] G J,.ro [.str,W Z] F E,V Z (Z.wrap (I+1))] [.cells 25 [.ro [.str,W Z,W Z] t v,.ro [.str,W Z,W Z,W Z] o n],.cells 65 [.str x,V Z w,V Z y],.row 49 [W Z,.str,.str,W Z] (D+1) (A.app D (datS [V Z 3,SV.str ({ data:=#[] }:ByteArray),SV.str (E.ss I.toNat 0),V Z (E.ii I.toNat 1)] 4))])
    False)
    False)
   False)
 (R (XE.normal) [.ro [W Z,W Z,.str,.str,.str,.bool] p u,.gr 2 4 D,.ptr 1 0,.ro [.str,W Z] G J,.ro [.str,W Z] F E,V Z (Z.wrap (I+1))] [.cells 25 [.ro [.str,W Z,W Z] t v,.ro [.str,W Z,W Z,W Z] o n],.cells 65 [.str x,V Z w,V Z y],.row 49 [W Z,.str,.str,W Z] L A]))
  False)
  False)
 (R (XE.exit 3) [.ro [W Z,W Z,.str,.str,.str,.bool] p u,.gr 2 4 D,.ptr 1 0] [.cells 25 [.ro [.str,W Z,W Z] t v,.ro [.str,W Z,W Z,W Z] o n],.cells 65 [.str x,V Z w,V Z y],.row 49 [W Z,.str,.str,W Z] L A]))) (fun R=>by kernel_rfl) ?_
  exact ch hG (fun h0=>cg h0 fun h1=>cg h1 fun h2=>ch h2 (fun h3=>cg h3 fun h4=>cg h4 fun h5=>cg h5 fun h6=>⟨(_,_,_,_,_,_,_,_,_,_,_,_,_,_,_,_,_),rfl,rfl,h6⟩) (fun h3=>⟨(_,_,_,_,_,_,_,_,_,_,_,_,_,_,_,_,_),rfl,rfl,h3⟩)) (fun h0=>h0.2)
 ·intro s k h
  unfold g25_3 at h
  split at h <;> try exact h.elim
  rename_i e1
  rw [needs_iff] at h
  exact ⟨_,e1,_,(_,_,_,_,_,_,_,_,_,_,_,_,_,_,_,_,_),rfl,rfl,h.1 _ (List.mem_singleton.2 rfl),h.2⟩
def m25 (d:Nat) (b:Dat) (g:Nat) (i:Dat) (l:Nat) (m:Dat) (j z:Int):Nat × Nat × Dat :=
 (cond (decide ((b.ii j.toNat 1)=1)) (cond (bif (decide ((b.ii j.toNat 1)=3)) then (m46 l m (b.ss j.toNat 0)).2 else false) ((((o25_3 l m (m33 d b g i l m).1 (m33 d b g i l m).2 (m36 d b g i l m (b.ss j.toNat 0)).1 (m36 d b g i l m (b.ss j.toNat 0)).2.1 d b g i (b.ss j.toNat 0) (b.ii j.toNat 1) (b.ii j.toNat 2) ((o25_0 l m j z d b g i (b.ss j.toNat 0) (b.ii j.toNat 1) (b.ii j.toNat 2) 0 0 noDat).getD default).1 0 ((o25_0 l m j z d b g i (b.ss j.toNat 0) (b.ii j.toNat 1) (b.ii j.toNat 2) 0 0 noDat).getD default).2.1 ((o25_0 l m j z d b g i (b.ss j.toNat 0) (b.ii j.toNat 1) (b.ii j.toNat 2) 0 0 noDat).getD default).2.2).getD default).1+1),(((o25_3 l m (m33 d b g i l m).1 (m33 d b g i l m).2 (m36 d b g i l m (b.ss j.toNat 0)).1 (m36 d b g i l m (b.ss j.toNat 0)).2.1 d b g i (b.ss j.toNat 0) (b.ii j.toNat 1) (b.ii j.toNat 2) ((o25_0 l m j z d b g i (b.ss j.toNat 0) (b.ii j.toNat 1) (b.ii j.toNat 2) 0 0 noDat).getD default).1 0 ((o25_0 l m j z d b g i (b.ss j.toNat 0) (b.ii j.toNat 1) (b.ii j.toNat 2) 0 0 noDat).getD default).2.1 ((o25_0 l m j z d b g i (b.ss j.toNat 0) (b.ii j.toNat 1) (b.ii j.toNat 2) 0 0 noDat).getD default).2.2).getD default).1+1),(((o25_3 l m (m33 d b g i l m).1 (m33 d b g i l m).2 (m36 d b g i l m (b.ss j.toNat 0)).1 (m36 d b g i l m (b.ss j.toNat 0)).2.1 d b g i (b.ss j.toNat 0) (b.ii j.toNat 1) (b.ii j.toNat 2) ((o25_0 l m j z d b g i (b.ss j.toNat 0) (b.ii j.toNat 1) (b.ii j.toNat 2) 0 0 noDat).getD default).1 0 ((o25_0 l m j z d b g i (b.ss j.toNat 0) (b.ii j.toNat 1) (b.ii j.toNat 2) 0 0 noDat).getD default).2.1 ((o25_0 l m j z d b g i (b.ss j.toNat 0) (b.ii j.toNat 1) (b.ii j.toNat 2) 0 0 noDat).getD default).2.2).getD default).2.2.app ((o25_3 l m (m33 d b g i l m).1 (m33 d b g i l m).2 (m36 d b g i l m (b.ss j.toNat 0)).1 (m36 d b g i l m (b.ss j.toNat 0)).2.1 d b g i (b.ss j.toNat 0) (b.ii j.toNat 1) (b.ii j.toNat 2) ((o25_0 l m j z d b g i (b.ss j.toNat 0) (b.ii j.toNat 1) (b.ii j.toNat 2) 0 0 noDat).getD default).1 0 ((o25_0 l m j z d b g i (b.ss j.toNat 0) (b.ii j.toNat 1) (b.ii j.toNat 2) 0 0 noDat).getD default).2.1 ((o25_0 l m j z d b g i (b.ss j.toNat 0) (b.ii j.toNat 1) (b.ii j.toNat 2) 0 0 noDat).getD default).2.2).getD default).1 (datS [V Z 3,SV.str ({ data:=#[] }:ByteArray),SV.str (b.ss j.toNat 0),V Z (m46 l m (b.ss j.toNat 0)).1] 4))) (((o25_3 l m (m33 d b g i l m).1 (m33 d b g i l m).2 (m36 d b g i l m (b.ss j.toNat 0)).1 (m36 d b g i l m (b.ss j.toNat 0)).2.1 d b g i (b.ss j.toNat 0) (b.ii j.toNat 1) (b.ii j.toNat 2) ((o25_0 l m j z d b g i (b.ss j.toNat 0) (b.ii j.toNat 1) (b.ii j.toNat 2) 0 0 noDat).getD default).1 0 ((o25_0 l m j z d b g i (b.ss j.toNat 0) (b.ii j.toNat 1) (b.ii j.toNat 2) 0 0 noDat).getD default).2.1 ((o25_0 l m j z d b g i (b.ss j.toNat 0) (b.ii j.toNat 1) (b.ii j.toNat 2) 0 0 noDat).getD default).2.2).getD default).1,((o25_3 l m (m33 d b g i l m).1 (m33 d b g i l m).2 (m36 d b g i l m (b.ss j.toNat 0)).1 (m36 d b g i l m (b.ss j.toNat 0)).2.1 d b g i (b.ss j.toNat 0) (b.ii j.toNat 1) (b.ii j.toNat 2) ((o25_0 l m j z d b g i (b.ss j.toNat 0) (b.ii j.toNat 1) (b.ii j.toNat 2) 0 0 noDat).getD default).1 0 ((o25_0 l m j z d b g i (b.ss j.toNat 0) (b.ii j.toNat 1) (b.ii j.toNat 2) 0 0 noDat).getD default).2.1 ((o25_0 l m j z d b g i (b.ss j.toNat 0) (b.ii j.toNat 1) (b.ii j.toNat 2) 0 0 noDat).getD default).2.2).getD default).2.1,((o25_3 l m (m33 d b g i l m).1 (m33 d b g i l m).2 (m36 d b g i l m (b.ss j.toNat 0)).1 (m36 d b g i l m (b.ss j.toNat 0)).2.1 d b g i (b.ss j.toNat 0) (b.ii j.toNat 1) (b.ii j.toNat 2) ((o25_0 l m j z d b g i (b.ss j.toNat 0) (b.ii j.toNat 1) (b.ii j.toNat 2) 0 0 noDat).getD default).1 0 ((o25_0 l m j z d b g i (b.ss j.toNat 0) (b.ii j.toNat 1) (b.ii j.toNat 2) 0 0 noDat).getD default).2.1 ((o25_0 l m j z d b g i (b.ss j.toNat 0) (b.ii j.toNat 1) (b.ii j.toNat 2) 0 0 noDat).getD default).2.2).getD default).2.2)) (cond (bif (decide ((b.ii j.toNat 1)=3)) then (m46 l m (b.ss j.toNat 0)).2 else false) ((((o25_0 l m j z d b g i (b.ss j.toNat 0) (b.ii j.toNat 1) (b.ii j.toNat 2) 0 0 noDat).getD default).1+1),(((o25_0 l m j z d b g i (b.ss j.toNat 0) (b.ii j.toNat 1) (b.ii j.toNat 2) 0 0 noDat).getD default).1+1),(((o25_0 l m j z d b g i (b.ss j.toNat 0) (b.ii j.toNat 1) (b.ii j.toNat 2) 0 0 noDat).getD default).2.2.app ((o25_0 l m j z d b g i (b.ss j.toNat 0) (b.ii j.toNat 1) (b.ii j.toNat 2) 0 0 noDat).getD default).1 (datS [V Z 3,SV.str ({ data:=#[] }:ByteArray),SV.str (b.ss j.toNat 0),V Z (m46 l m (b.ss j.toNat 0)).1] 4))) (((o25_0 l m j z d b g i (b.ss j.toNat 0) (b.ii j.toNat 1) (b.ii j.toNat 2) 0 0 noDat).getD default).1,((o25_0 l m j z d b g i (b.ss j.toNat 0) (b.ii j.toNat 1) (b.ii j.toNat 2) 0 0 noDat).getD default).2.1,((o25_0 l m j z d b g i (b.ss j.toNat 0) (b.ii j.toNat 1) (b.ii j.toNat 2) 0 0 noDat).getD default).2.2)))
def n25 (d:Nat) (b:Dat) (g:Nat) (i:Dat) (l:Nat) (m:Dat) (j z:Int):Bool :=
 ((decide (0≤j∧j<↑d))&&(((o25_0 l m j z d b g i (b.ss j.toNat 0) (b.ii j.toNat 1) (b.ii j.toNat 2) 0 0 noDat).isSome)&&(cond (decide ((b.ii j.toNat 1)=1)) ((n33 d b g i l m)&&((n36 d b g i l m (b.ss j.toNat 0))&&(((o25_3 l m (m33 d b g i l m).1 (m33 d b g i l m).2 (m36 d b g i l m (b.ss j.toNat 0)).1 (m36 d b g i l m (b.ss j.toNat 0)).2.1 d b g i (b.ss j.toNat 0) (b.ii j.toNat 1) (b.ii j.toNat 2) ((o25_0 l m j z d b g i (b.ss j.toNat 0) (b.ii j.toNat 1) (b.ii j.toNat 2) 0 0 noDat).getD default).1 0 ((o25_0 l m j z d b g i (b.ss j.toNat 0) (b.ii j.toNat 1) (b.ii j.toNat 2) 0 0 noDat).getD default).2.1 ((o25_0 l m j z d b g i (b.ss j.toNat 0) (b.ii j.toNat 1) (b.ii j.toNat 2) 0 0 noDat).getD default).2.2).isSome)&&((n46 l m (b.ss j.toNat 0))&&(cond (bif (decide ((b.ii j.toNat 1)=3)) then (m46 l m (b.ss j.toNat 0)).2 else false) ((decide (((o25_3 l m (m33 d b g i l m).1 (m33 d b g i l m).2 (m36 d b g i l m (b.ss j.toNat 0)).1 (m36 d b g i l m (b.ss j.toNat 0)).2.1 d b g i (b.ss j.toNat 0) (b.ii j.toNat 1) (b.ii j.toNat 2) ((o25_0 l m j z d b g i (b.ss j.toNat 0) (b.ii j.toNat 1) (b.ii j.toNat 2) 0 0 noDat).getD default).1 0 ((o25_0 l m j z d b g i (b.ss j.toNat 0) (b.ii j.toNat 1) (b.ii j.toNat 2) 0 0 noDat).getD default).2.1 ((o25_0 l m j z d b g i (b.ss j.toNat 0) (b.ii j.toNat 1) (b.ii j.toNat 2) 0 0 noDat).getD default).2.2).getD default).1≤((o25_3 l m (m33 d b g i l m).1 (m33 d b g i l m).2 (m36 d b g i l m (b.ss j.toNat 0)).1 (m36 d b g i l m (b.ss j.toNat 0)).2.1 d b g i (b.ss j.toNat 0) (b.ii j.toNat 1) (b.ii j.toNat 2) ((o25_0 l m j z d b g i (b.ss j.toNat 0) (b.ii j.toNat 1) (b.ii j.toNat 2) 0 0 noDat).getD default).1 0 ((o25_0 l m j z d b g i (b.ss j.toNat 0) (b.ii j.toNat 1) (b.ii j.toNat 2) 0 0 noDat).getD default).2.1 ((o25_0 l m j z d b g i (b.ss j.toNat 0) (b.ii j.toNat 1) (b.ii j.toNat 2) 0 0 noDat).getD default).2.2).getD default).2.1))&&((decide ((((o25_3 l m (m33 d b g i l m).1 (m33 d b g i l m).2 (m36 d b g i l m (b.ss j.toNat 0)).1 (m36 d b g i l m (b.ss j.toNat 0)).2.1 d b g i (b.ss j.toNat 0) (b.ii j.toNat 1) (b.ii j.toNat 2) ((o25_0 l m j z d b g i (b.ss j.toNat 0) (b.ii j.toNat 1) (b.ii j.toNat 2) 0 0 noDat).getD default).1 0 ((o25_0 l m j z d b g i (b.ss j.toNat 0) (b.ii j.toNat 1) (b.ii j.toNat 2) 0 0 noDat).getD default).2.1 ((o25_0 l m j z d b g i (b.ss j.toNat 0) (b.ii j.toNat 1) (b.ii j.toNat 2) 0 0 noDat).getD default).2.2).getD default).1+1)≤1073741824))&&true)) true))))) ((n46 l m (b.ss j.toNat 0))&&(cond (bif (decide ((b.ii j.toNat 1)=3)) then (m46 l m (b.ss j.toNat 0)).2 else false) ((decide (((o25_0 l m j z d b g i (b.ss j.toNat 0) (b.ii j.toNat 1) (b.ii j.toNat 2) 0 0 noDat).getD default).1≤((o25_0 l m j z d b g i (b.ss j.toNat 0) (b.ii j.toNat 1) (b.ii j.toNat 2) 0 0 noDat).getD default).2.1))&&((decide ((((o25_0 l m j z d b g i (b.ss j.toNat 0) (b.ii j.toNat 1) (b.ii j.toNat 2) 0 0 noDat).getD default).1+1)≤1073741824))&&true)) true)))))
def q25 (r:Nat × Nat × Dat):SV × List Blk × List Blk:=(.gr 0 4 r.1,[],[.row 49 [W Z,.str,.str,W Z] r.2.1 r.2.2])
def g25:GF:=fun vs bs=>match vs,bs with
 | [.agg [.ro [.str,W Z,W Z] d b,.ro [.str,W Z,W Z,W Z] g i],.ro [W Z,W Z,.str,.str,.str,.bool] l m,V Z j,V Z z],[]=>some (rs 0 (q25 (m25 d b g i l m j z)) [n25 d b g i l m j z])
 | _,_=>none
def c25:Ctr:=sealL (genC [.a [.ro [.str,W Z,W Z],.ro [.str,W Z,W Z,W Z]],.ro [W Z,W Z,.str,.str,.str,.bool],.k,.k] g25)
theorem k25:CtrOk Try.prog c25 25:=seal_l <| cx (tc k33 (tc k36 (tc k46 (tc k69 (tc k70 tn))))) mix_ok 8 (fn:=Try.f25) (c:=(Try.f25.body.getD .skip)) (grs:=[]) (rh:=.k) Try.func25 rfl (by kernel_rfl) (lam_of rfl (lc z25_0 (lc z25_3 ln))) fun vs bs q h hn=>by
 unfold g25 at h
 split at h <;> cases h
 rename_i d b g i l m j z
 have hn:=n1 hn
 exact ⟨_,rfl,ca (fun R => 
 let b0:=((o25_0 l m j z d b g i (b.ss j.toNat 0) (b.ii j.toNat 1) (b.ii j.toNat 2) 0 0 noDat).getD default)
 let a0:=(o25_3 l m (m33 d b g i l m).1 (m33 d b g i l m).2 (m36 d b g i l m (b.ss j.toNat 0)).1 (m36 d b g i l m (b.ss j.toNat 0)).2.1 d b g i (b.ss j.toNat 0) (b.ii j.toNat 1) (b.ii j.toNat 2) b0.1 0 b0.2.1 b0.2.2)
 let c0:=(datS [V Z 3,SV.str ({ data:=#[] }:ByteArray),SV.str (b.ss j.toNat 0),V Z (m46 l m (b.ss j.toNat 0)).1] 4)
 let d0:=(bif (decide ((b.ii j.toNat 1)=3)) then (m46 l m (b.ss j.toNat 0)).2 else false)
 (cnd (decide (0≤j∧j<↑d))
 (cnd ((o25_0 l m j z d b g i (b.ss j.toNat 0) (b.ii j.toNat 1) (b.ii j.toNat 2) 0 0 noDat).isSome)
 (cnd (decide ((b.ii j.toNat 1)=1))
 (cnd (n33 d b g i l m)
 (cnd (n36 d b g i l m (b.ss j.toNat 0))
 (cnd (a0.isSome)
 (cnd (n46 l m (b.ss j.toNat 0))
 (cnd d0
 (cnd (decide ((a0.getD default).1≤(a0.getD default).2.1))
 (cnd (decide (((a0.getD default).1+1)≤1073741824))
 (R (.gr 0 4 ((a0.getD default).1+1)) [] [.row 49 [W Z,.str,.str,W Z] ((a0.getD default).1+1) ((a0.getD default).2.2.app (a0.getD default).1 c0)])
      False)
     False)
 (R (.gr 0 4 (a0.getD default).1) [] [.row 49 [W Z,.str,.str,W Z] (a0.getD default).2.1 (a0.getD default).2.2]))
    False)
    False)
   False)
   False)
 (cnd (n46 l m (b.ss j.toNat 0))
 (cnd d0
 (cnd (decide (b0.1≤b0.2.1))
 (cnd (decide ((b0.1+1)≤1073741824))
 (R (.gr 0 4 (b0.1+1)) [] [.row 49 [W Z,.str,.str,W Z] (b0.1+1) (b0.2.2.app b0.1 c0)])
    False)
    False)
 (R (.gr 0 4 b0.1) [] [.row 49 [W Z,.str,.str,W Z] b0.2.1 b0.2.2]))
   False))
  False)
 False)) (fun R=>by kernel_rfl) (cn (al hn) (cn (al (ar hn)) (co (fun h0=>cn (al (ct h0 (ar (ar hn)))) (cn (al (ar (ct h0 (ar (ar hn))))) (cn (al (ar (ar (ct h0 (ar (ar hn)))))) (cn (al (ar (ar (ar (ct h0 (ar (ar hn))))))) (co (fun h1=>cn (al (ct h1 (ar (ar (ar (ar (ct h0 (ar (ar hn))))))))) (cn (al (ar (ct h1 (ar (ar (ar (ar (ct h0 (ar (ar hn)))))))))) (lf (cT h0 (cT h1 rfl)) rfl))) (fun h1=>lf (cT h0 (cF h1 rfl)) rfl)))))) (fun h0=>cn (al (cf h0 (ar (ar hn)))) (co (fun h1=>cn (al (ct h1 (ar (cf h0 (ar (ar hn)))))) (cn (al (ar (ct h1 (ar (cf h0 (ar (ar hn))))))) (lf (cF h0 (cT h1 rfl)) rfl))) (fun h1=>lf (cF h0 (cF h1 rfl)) rfl))))))⟩
/-! ### shotline/shotlineref07.possible -/
def m68 (d:Nat) (b:Dat) (e:Nat) (g:Dat) (l:Nat) (o:Dat) (j i:Int) (n p m:ByteArray) (s:Bool):Int :=
 (cond (bif (decide ((0:Int)<(↑l:Int))) then (decide (i<(o.ii ((Z.wrap ((↑l:Int) - 1)).toNat) 1))) else false) 9 (cond (bif (decide (i<(b.ii ((m23 d b e g n).toNat) 2))) then true else (bif (decide (j=2)) then (decide (i<(b.ii ((m23 d b e g m).toNat) 2))) else false)) 19 (cond (bif (bif (decide (j=2)) then (decide ((0:Int)<(↑((m25 d b e g l o (m23 d b e g m) i).1):Int))) else false) then true else (bif (bif (decide (j=1)) then true else (decide (j=2))) then (decide ((0:Int)<(↑((m25 d b e g l o (m23 d b e g n) i).1):Int))) else false)) 24 0)))
def n68 (d:Nat) (b:Dat) (e:Nat) (g:Dat) (l:Nat) (o:Dat) (j i:Int) (n p m:ByteArray) (s:Bool):Bool :=
 ((bif (bif (decide ((0:Int)<(↑l:Int))) then false else true) then true else (decide (0≤Z.wrap ((↑l:Int) - 1)∧Z.wrap ((↑l:Int) - 1)<(↑l:Int))))&&(cond (bif (decide ((0:Int)<(↑l:Int))) then (decide (i<(o.ii ((Z.wrap ((↑l:Int) - 1)).toNat) 1))) else false) true ((n23 d b e g n)&&((n23 d b e g m)&&((decide (0≤m23 d b e g n∧m23 d b e g n<(↑d:Int)))&&((bif (bif (bif (bif (decide (i<(b.ii ((m23 d b e g n).toNat) 2))) then false else true) then (decide (j=2)) else false) then false else true) then true else (decide (0≤m23 d b e g m∧m23 d b e g m<(↑d:Int))))&&(cond (bif (decide (i<(b.ii ((m23 d b e g n).toNat) 2))) then true else (bif (decide (j=2)) then (decide (i<(b.ii ((m23 d b e g m).toNat) 2))) else false)) true ((bif (bif (decide (j=2)) then false else true) then true else (n25 d b e g l o (m23 d b e g m) i))&&((bif (bif (decide (j=2)) then false else true) then true else (decide ((m25 d b e g l o (m23 d b e g m) i).1≤(m25 d b e g l o (m23 d b e g m) i).2.1)))&&((bif (bif (bif (bif (bif (decide (j=2)) then (decide ((0:Int)<(↑((m25 d b e g l o (m23 d b e g m) i).1):Int))) else false) then false else true) then (bif (decide (j=1)) then true else (decide (j=2))) else false) then false else true) then true else (n25 d b e g l o (m23 d b e g n) i))&&((bif (bif (bif (bif (bif (decide (j=2)) then (decide ((0:Int)<(↑((m25 d b e g l o (m23 d b e g m) i).1):Int))) else false) then false else true) then (bif (decide (j=1)) then true else (decide (j=2))) else false) then false else true) then true else (decide ((m25 d b e g l o (m23 d b e g n) i).1≤(m25 d b e g l o (m23 d b e g n) i).2.1)))&&true)))))))))))
def q68 (r:Int):SV × List Blk × List Blk:=(V Z r,[],[])
def g68:GF:=fun vs bs=>match vs,bs with
 | [.agg [.ro [.str,W Z,W Z] d b,.ro [.str,W Z,W Z,W Z] e g],.ro [W Z,W Z,.str,.str,.str,.bool] l o,.agg [V Z j,V Z i,.str n,.str p,.str m,.bool s]],[]=>some (rs 0 (q68 (m68 d b e g l o j i n p m s)) [n68 d b e g l o j i n p m s])
 | _,_=>none
def c68:Ctr:=genC [.a [.ro [.str,W Z,W Z],.ro [.str,W Z,W Z,W Z]],.ro [W Z,W Z,.str,.str,.str,.bool],.k] g68
theorem k68:CtrOk Try.prog c68 68:=cx (tc k23 (tc k25 tn)) mix_ok 8 (fn:=Try.f68) (c:=(Try.f68.body.getD .skip)) (grs:=[]) (rh:=.k) Try.func68 rfl (by kernel_rfl) noLam fun vs bs q h hn=>by
 unfold g68 at h
 split at h <;> cases h
 rename_i d b e g l o j i n p m s
 have hn:=n1 hn
 exact ⟨_,rfl,ca (fun R => 
 let b0:=(m25 d b e g l o (m23 d b e g m) i)
 let a0:=(bif (bif (bif (bif (decide (j=2)) then (decide ((0:Int)<(↑(b0.1):Int))) else false) then false else true) then (bif (decide (j=1)) then true else (decide (j=2))) else false) then false else true)
 let c0:=(m25 d b e g l o (m23 d b e g n) i)
 (cnd (bif (bif (decide ((0:Int)<(↑l:Int))) then false else true) then true else (decide (0≤Z.wrap ((↑l:Int) - 1)∧Z.wrap ((↑l:Int) - 1)<(↑l:Int))))
 (cnd (bif (decide ((0:Int)<(↑l:Int))) then (decide (i<(o.ii ((Z.wrap ((↑l:Int) - 1)).toNat) 1))) else false)
 (R (V Z 9) [] [])
 (cnd (n23 d b e g n)
 (cnd (n23 d b e g m)
 (cnd (decide (0≤m23 d b e g n∧m23 d b e g n<(↑d:Int)))
 (cnd (bif (bif (bif (bif (decide (i<(b.ii ((m23 d b e g n).toNat) 2))) then false else true) then (decide (j=2)) else false) then false else true) then true else (decide (0≤m23 d b e g m∧m23 d b e g m<(↑d:Int))))
 (cnd (bif (decide (i<(b.ii ((m23 d b e g n).toNat) 2))) then true else (bif (decide (j=2)) then (decide (i<(b.ii ((m23 d b e g m).toNat) 2))) else false))
 (R (V Z 19) [] [])
 (cnd (bif (bif (decide (j=2)) then false else true) then true else (n25 d b e g l o (m23 d b e g m) i))
 (cnd (bif (bif (decide (j=2)) then false else true) then true else (decide (b0.1≤b0.2.1)))
 (cnd (bif a0 then true else (n25 d b e g l o (m23 d b e g n) i))
 (cnd (bif a0 then true else (decide (c0.1≤c0.2.1)))
 (cnd (bif (bif (decide (j=2)) then (decide ((0:Int)<(↑(b0.1):Int))) else false) then true else (bif (bif (decide (j=1)) then true else (decide (j=2))) then (decide ((0:Int)<(↑(c0.1):Int))) else false))
 (R (V Z 24) [] [])
 (R (V Z 0) [] []))
      False)
      False)
     False)
     False))
    False)
   False)
   False)
  False))
 False)) (fun R=>by kernel_rfl) (cn (al hn) (co (fun h0=>lf (cT h0 rfl) rfl) (fun h0=>cn (al (cf h0 (ar hn))) (cn (al (ar (cf h0 (ar hn)))) (cn (al (ar (ar (cf h0 (ar hn))))) (cn (al (ar (ar (ar (cf h0 (ar hn)))))) (co (fun h1=>lf (cF h0 (cT h1 rfl)) rfl) (fun h1=>cn (al (cf h1 (ar (ar (ar (ar (cf h0 (ar hn)))))))) (cn (al (ar (cf h1 (ar (ar (ar (ar (cf h0 (ar hn))))))))) (cn (al (ar (ar (cf h1 (ar (ar (ar (ar (cf h0 (ar hn)))))))))) (cn (al (ar (ar (ar (cf h1 (ar (ar (ar (ar (cf h0 (ar hn))))))))))) (co (fun h2=>lf (cF h0 (cF h1 (cT h2 rfl))) rfl) (fun h2=>lf (cF h0 (cF h1 (cF h2 rfl))) rfl)))))))))))))⟩
/-! ### shotline/shotlineref07.CheckEvents -/
def l22_0 (m:Nat) (b:Dat) (g:Nat) (j:Dat) (i:Nat) (l:Dat):Nat→Int→Option (Bool × (Int × Int) × (Unit))
 | 0,_=>none
 | f+1,d=>(cond (decide (d<(↑m:Int))) (cond (decide (0≤d∧d<↑m)) (cond (n67 g j i l (b.ii d.toNat 0) (b.ii d.toNat 1) (b.ss d.toNat 2) (b.ss d.toNat 3) (b.ss d.toNat 4) (b.bb d.toNat 5)) (cond (decide ((m67 g j i l (b.ii d.toNat 0) (b.ii d.toNat 1) (b.ss d.toNat 2) (b.ss d.toNat 3) (b.ss d.toNat 4) (b.bb d.toNat 5))=0)) (cond (decide ((0:Int)≤(0:Int)∧(0:Int)≤d∧d≤(↑m:Int))) (cond (decide (0≤d∧d<↑m)) (cond (n68 g j i l ((d - 0).toNat) b (b.ii d.toNat 0) (b.ii d.toNat 1) (b.ss d.toNat 2) (b.ss d.toNat 3) (b.ss d.toNat 4) (b.bb d.toNat 5)) (cond (bif (decide ((m68 g j i l ((d - 0).toNat) b (b.ii d.toNat 0) (b.ii d.toNat 1) (b.ss d.toNat 2) (b.ss d.toNat 3) (b.ss d.toNat 4) (b.bb d.toNat 5))=0)) then false else true) (some (true,(d,(m68 g j i l ((d - 0).toNat) b (b.ii d.toNat 0) (b.ii d.toNat 1) (b.ss d.toNat 2) (b.ss d.toNat 3) (b.ss d.toNat 4) (b.bb d.toNat 5))),default)) (l22_0 m b g j i l f (Z.wrap (d+1)))) none) none) none) (cond (bif (decide ((m67 g j i l (b.ii d.toNat 0) (b.ii d.toNat 1) (b.ss d.toNat 2) (b.ss d.toNat 3) (b.ss d.toNat 4) (b.bb d.toNat 5))=0)) then false else true) (some (true,(d,(m67 g j i l (b.ii d.toNat 0) (b.ii d.toNat 1) (b.ss d.toNat 2) (b.ss d.toNat 3) (b.ss d.toNat 4) (b.bb d.toNat 5))),default)) (l22_0 m b g j i l f (Z.wrap (d+1))))) none) none) (some (false,default,())))
abbrev o22_0 (m:Nat) (b:Dat) (g:Nat) (j:Dat) (i:Nat) (l:Dat) (d:Int):Option (Bool × (Int × Int) × (Unit)):=l22_0 m b g j i l (m+d.toNat+g+i+8) d
def e22_0 (m:Nat) (b:Dat) (g:Nat) (j:Dat) (i:Nat) (l:Dat) (r:Bool × (Int × Int) × (Unit)) (K:XR):Prop:=cnd r.1 (K (XE.ret) [V Z r.2.1.1,V Z r.2.1.2] [.cells 25 [.ro [.str,W Z,W Z] g j,.ro [.str,W Z,W Z,W Z] i l]]) (K (XE.exit 0) [.any,.any] [.cells 25 [.ro [.str,W Z,W Z] g j,.ro [.str,W Z,W Z,W Z] i l]])
def g22_0:LSum:=fun s k=>match czv 0 44 [1,2,7] 1 [] s with
 | some ([.ro [W Z,W Z,.str,.str,.str,.bool] m b,.ptr 0 0,V Z d],[.cells 25 [.ro [.str,W Z,W Z] g j,.ro [.str,W Z,W Z,W Z] i l]])=>needs [(o22_0 m b g j i l d).isSome] (e22_0 m b g j i l ((o22_0 m b g j i l d).getD default) fun e vs bs=>inBlk 0 k e (mkSt 0 44 [4,5] vs 1 bs))
 | _=>False
theorem z22_0:LOk Try.prog g22_0 (.block 0 (bodyAt (Try.f22.body.getD .skip) 0)):=by
 refine lb (ι:=Nat × Dat × Int × Nat × Dat × Nat × Dat) (fuel:=8) (na:=0) (nt:=44) (nx:=1) (Lh:=[1,2,7]) (Le:=[4,5]) (gl:=[]) (tc k66 (tc k67 (tc k68 tn))) mix_ok noLam rfl (fun f (m,b,d,g,j,i,l) K=>GG default (e22_0 m b g j i l) K (l22_0 m b g j i l f d)) (fun (m,b,d,g,j,i,l)=>[.ro [W Z,W Z,.str,.str,.str,.bool] m b,.ptr 0 0,V Z d]) (fun (m,b,d,g,j,i,l)=>[.cells 25 [.ro [.str,W Z,W Z] g j,.ro [.str,W Z,W Z,W Z] i l]]) (fun (_,_,_,_,_,_,_) K=>gg_none) ?_ ?_
 ·rintro f ⟨m,b,d,g,j,i,l⟩ K hG
  refine ro (fun R => 
 let a0:=(m67 g j i l (b.ii d.toNat 0) (b.ii d.toNat 1) (b.ss d.toNat 2) (b.ss d.toNat 3) (b.ss d.toNat 4) (b.bb d.toNat 5))
 let b0:=(m68 g j i l ((d - 0).toNat) b (b.ii d.toNat 0) (b.ii d.toNat 1) (b.ss d.toNat 2) (b.ss d.toNat 3) (b.ss d.toNat 4) (b.bb d.toNat 5))
 (cnd (decide (d<(↑m:Int)))
 (cnd (decide (0≤d∧d<↑m))
 (cnd (n67 g j i l (b.ii d.toNat 0) (b.ii d.toNat 1) (b.ss d.toNat 2) (b.ss d.toNat 3) (b.ss d.toNat 4) (b.bb d.toNat 5))
 (cnd (decide (a0=0))
 (cnd (decide ((0:Int)≤(0:Int)∧(0:Int)≤d∧d≤(↑m:Int)))
 (cnd (decide (0≤d∧d<↑m))
 (cnd (n68 g j i l ((d - 0).toNat) b (b.ii d.toNat 0) (b.ii d.toNat 1) (b.ss d.toNat 2) (b.ss d.toNat 3) (b.ss d.toNat 4) (b.bb d.toNat 5))
 (cnd (bif (decide (b0=0)) then false else true)
 (R (XE.ret) [V Z d,V Z b0] [.cells 25 [.ro [.str,W Z,W Z] g j,.ro [.str,W Z,W Z,W Z] i l]])
 (R (XE.normal) [.ro [W Z,W Z,.str,.str,.str,.bool] m b,.ptr 0 0,V Z (Z.wrap (d+1))] [.cells 25 [.ro [.str,W Z,W Z] g j,.ro [.str,W Z,W Z,W Z] i l]]))
    False)
    False)
   False)
 (cnd (bif (decide (a0=0)) then false else true)
 (R (XE.ret) [V Z d,V Z a0] [.cells 25 [.ro [.str,W Z,W Z] g j,.ro [.str,W Z,W Z,W Z] i l]])
 (R (XE.normal) [.ro [W Z,W Z,.str,.str,.str,.bool] m b,.ptr 0 0,V Z (Z.wrap (d+1))] [.cells 25 [.ro [.str,W Z,W Z] g j,.ro [.str,W Z,W Z,W Z] i l]])))
  False)
  False)
 (R (XE.exit 0) [.any,.any] [.cells 25 [.ro [.str,W Z,W Z] g j,.ro [.str,W Z,W Z,W Z] i l]]))) (fun R=>by kernel_rfl) ?_
  exact ch hG (fun h0=>cg h0 fun h1=>cg h1 fun h2=>ch h2 (fun h3=>cg h3 fun h4=>cg h4 fun h5=>cg h5 fun h6=>ch h6 (fun h7=>h7.2) (fun h7=>⟨(_,_,_,_,_,_,_),rfl,rfl,h7⟩)) (fun h3=>ch h3 (fun h4=>h4.2) (fun h4=>⟨(_,_,_,_,_,_,_),rfl,rfl,h4⟩))) (fun h0=>h0.2)
 ·intro s k h
  unfold g22_0 at h
  split at h <;> try exact h.elim
  rename_i e1
  rw [needs_iff] at h
  exact ⟨_,e1,_,(_,_,_,_,_,_,_),rfl,rfl,h.1 _ (List.mem_singleton.2 rfl),h.2⟩
def m22 (n:Nat) (o:Dat) (p:Nat) (t:Dat) (u:Nat) (v:Dat):Int × Int :=
 (cond (bif (decide ((m66 n o p t)=0)) then false else true) (0,(m66 n o p t)) (cond (decide ((200:Int)<(↑u:Int))) (0,8) (cond ((o22_0 u v n o p t 0).getD default).1 (((o22_0 u v n o p t 0).getD default).2.1.1,((o22_0 u v n o p t 0).getD default).2.1.2) (0,0))))
def n22 (n:Nat) (o:Dat) (p:Nat) (t:Dat) (u:Nat) (v:Dat):Bool :=
 ((n66 n o p t)&&(cond (bif (decide ((m66 n o p t)=0)) then false else true) true (cond (decide ((200:Int)<(↑u:Int))) true (((o22_0 u v n o p t 0).isSome)&&true))))
def q22 (r:Int × Int):SV × List Blk × List Blk:=(.tup [V Z r.1,V Z r.2],[],[])
def g22:GF:=fun vs bs=>match vs,bs with
 | [.agg [.ro [.str,W Z,W Z] n o,.ro [.str,W Z,W Z,W Z] p t],.ro [W Z,W Z,.str,.str,.str,.bool] u v],[]=>some (rs 0 (q22 (m22 n o p t u v)) [n22 n o p t u v])
 | _,_=>none
def c22:Ctr:=genC [.a [.ro [.str,W Z,W Z],.ro [.str,W Z,W Z,W Z]],.ro [W Z,W Z,.str,.str,.str,.bool]] g22
theorem k22:CtrOk Try.prog c22 22:=cx (tc k66 (tc k67 (tc k68 tn))) mix_ok 8 (fn:=Try.f22) (c:=(Try.f22.body.getD .skip)) (grs:=[]) (rh:=.k) Try.func22 rfl (by kernel_rfl) (lam_of rfl (lc z22_0 ln)) fun vs bs q h hn=>by
 unfold g22 at h
 split at h <;> cases h
 rename_i n o p t u v
 have hn:=n1 hn
 exact ⟨_,rfl,ca (fun R => 
 let a0:=((o22_0 u v n o p t 0).getD default)
 (cnd (n66 n o p t)
 (cnd (bif (decide ((m66 n o p t)=0)) then false else true)
 (R (.tup [V Z 0,V Z (m66 n o p t)]) [] [])
 (cnd (decide ((200:Int)<(↑u:Int)))
 (R (.tup [V Z 0,V Z 8]) [] [])
 (cnd ((o22_0 u v n o p t 0).isSome)
 (cnd a0.1
 (R (.tup [V Z a0.2.1.1,V Z a0.2.1.2]) [] [])
 (R (.tup [V Z 0,V Z 0]) [] []))
   False)))
 False)) (fun R=>by kernel_rfl) (cn (al hn) (co (fun h0=>lf (cT h0 rfl) rfl) (fun h0=>co (fun h1=>lf (cF h0 (cT h1 rfl)) rfl) (fun h1=>cn (al (cf h1 (cf h0 (ar hn)))) (co (fun h2=>lf (cF h0 (cF h1 (cT h2 rfl))) rfl) (fun h2=>lf (cF h0 (cF h1 (cF h2 rfl))) rfl))))))⟩
/-! ### math/bits.Len32 -/
def m126 (a:Int):Int :=
 (cond (decide (65536≤a)) (cond (decide (256≤(a.fdiv 65536))) (Z.wrap (24+(Z.wrap (byteAt (bt19670_1) ((IntKind.u8.wrap ((a.fdiv 65536).fdiv 256)).toNat))))) (Z.wrap (16+(Z.wrap (byteAt (bt19670_1) ((IntKind.u8.wrap (a.fdiv 65536)).toNat)))))) (cond (decide (256≤a)) (Z.wrap (8+(Z.wrap (byteAt (bt19670_1) ((IntKind.u8.wrap (a.fdiv 256)).toNat))))) (Z.wrap (0+(Z.wrap (byteAt (bt19670_1) ((IntKind.u8.wrap a).toNat)))))))
def n126 (a:Int):Bool :=
 (cond (decide (65536≤a)) (cond (decide (256≤(a.fdiv 65536))) ((decide (0≤IntKind.u8.wrap ((a.fdiv (2 ^ min (Int.toNat 16) IntKind.u32.bits)).fdiv (2 ^ min (Int.toNat 8) IntKind.u32.bits))∧IntKind.u8.wrap ((a.fdiv (2 ^ min (Int.toNat 16) IntKind.u32.bits)).fdiv (2 ^ min (Int.toNat 8) IntKind.u32.bits))<(↑bt14413_0.size:Int)))&&true) ((decide (0≤IntKind.u8.wrap (a.fdiv (2 ^ min (Int.toNat 16) IntKind.u32.bits))∧IntKind.u8.wrap (a.fdiv (2 ^ min (Int.toNat 16) IntKind.u32.bits))<(↑bt14413_0.size:Int)))&&true)) (cond (decide (256≤a)) ((decide (0≤IntKind.u8.wrap (a.fdiv (2 ^ min (Int.toNat 8) IntKind.u32.bits))∧IntKind.u8.wrap (a.fdiv (2 ^ min (Int.toNat 8) IntKind.u32.bits))<(↑bt14413_0.size:Int)))&&true) ((decide ((0:Int)≤IntKind.u8.wrap a∧IntKind.u8.wrap a<(↑bt48795_2.size:Int)))&&true)))
def q126 (r:Int):SV × List Blk × List Blk:=(V Z r,[],[])
def g126:GF:=fun vs bs=>match vs,bs with
 | [.int .u32 a],[]=>some (rs 0 (q126 (m126 a)) [n126 a])
 | _,_=>none
def c126:Ctr:=genC [.k] g126
theorem k126:CtrOk Try.prog c126 126:=cx tn mix_ok 8 (fn:=Try.f126) (c:=(Try.f126.body.getD .skip)) (grs:=[]) (rh:=.k) Try.func126 rfl (by kernel_rfl) noLam fun vs bs q h hn=>by
 unfold g126 at h
 split at h <;> cases h
 rename_i a
 have hn:=n1 hn
 exact ⟨_,rfl,ca (fun R => 
 let a0:=(a.fdiv (2 ^ min (Int.toNat 16) IntKind.u32.bits))
 let b0:=(2 ^ min (Int.toNat 8) IntKind.u32.bits)
 (cnd (decide (65536≤a))
 (cnd (decide (256≤(a.fdiv 65536)))
 (cnd (decide (0≤IntKind.u8.wrap (a0.fdiv b0)∧IntKind.u8.wrap (a0.fdiv b0)<(↑bt14413_0.size:Int)))
 (R (V Z (Z.wrap (24+(Z.wrap (byteAt (bt19670_1) ((IntKind.u8.wrap ((a.fdiv 65536).fdiv 256)).toNat)))))) [] [])
  False)
 (cnd (decide (0≤IntKind.u8.wrap a0∧IntKind.u8.wrap a0<(↑bt14413_0.size:Int)))
 (R (V Z (Z.wrap (16+(Z.wrap (byteAt (bt19670_1) ((IntKind.u8.wrap (a.fdiv 65536)).toNat)))))) [] [])
  False))
 (cnd (decide (256≤a))
 (cnd (decide (0≤IntKind.u8.wrap (a.fdiv b0)∧IntKind.u8.wrap (a.fdiv b0)<(↑bt14413_0.size:Int)))
 (R (V Z (Z.wrap (8+(Z.wrap (byteAt (bt19670_1) ((IntKind.u8.wrap (a.fdiv 256)).toNat)))))) [] [])
  False)
 (cnd (decide ((0:Int)≤IntKind.u8.wrap a∧IntKind.u8.wrap a<(↑bt48795_2.size:Int)))
 (R (V Z (Z.wrap (0+(Z.wrap (byteAt (bt19670_1) ((IntKind.u8.wrap a).toNat)))))) [] [])
  False)))) (fun R=>by kernel_rfl) (co (fun h0=>co (fun h1=>cn (al (ct h1 (ct h0 hn))) (lf (cT h0 (cT h1 rfl)) rfl)) (fun h1=>cn (al (cf h1 (ct h0 hn))) (lf (cT h0 (cF h1 rfl)) rfl))) (fun h0=>co (fun h1=>cn (al (ct h1 (cf h0 hn))) (lf (cF h0 (cT h1 rfl)) rfl)) (fun h1=>cn (al (cf h1 (cf h0 hn))) (lf (cF h0 (cF h1 rfl)) rfl))))⟩
/-! ### math/bits.Len64 -/
def t127_0 (a:Int):Int:=(a.fdiv 4294967296).fdiv 65536
def t127_1 (a:Int):ByteArray:=bt19670_1
def U127 (a z0:Int) (z1:ByteArray) (R:SV→List Blk→List Blk→Prop):Prop :=
 (cnd (decide (4294967296≤a))
 (cnd (decide (65536≤(a.fdiv 4294967296)))
 (cnd (decide (256≤z0))
 (cnd (decide (0≤IntKind.u8.wrap (((a.fdiv (2 ^ min (Int.toNat 32) IntKind.u64.bits)).fdiv (2 ^ min (Int.toNat 16) IntKind.u64.bits)).fdiv (2 ^ min (Int.toNat 8) IntKind.u64.bits))∧IntKind.u8.wrap (((a.fdiv (2 ^ min (Int.toNat 32) IntKind.u64.bits)).fdiv (2 ^ min (Int.toNat 16) IntKind.u64.bits)).fdiv (2 ^ min (Int.toNat 8) IntKind.u64.bits))<(↑bt14413_0.size:Int)))
 (R (V Z (Z.wrap (56+(Z.wrap (byteAt z1 ((IntKind.u8.wrap (z0.fdiv 256)).toNat)))))) [] [])
   False)
 (cnd (decide (0≤IntKind.u8.wrap ((a.fdiv (2 ^ min (Int.toNat 32) IntKind.u64.bits)).fdiv (2 ^ min (Int.toNat 16) IntKind.u64.bits))∧IntKind.u8.wrap ((a.fdiv (2 ^ min (Int.toNat 32) IntKind.u64.bits)).fdiv (2 ^ min (Int.toNat 16) IntKind.u64.bits))<(↑bt14413_0.size:Int)))
 (R (V Z (Z.wrap (48+(Z.wrap (byteAt z1 ((IntKind.u8.wrap z0).toNat)))))) [] [])
   False))
 (cnd (decide (256≤(a.fdiv 4294967296)))
 (cnd (decide (0≤IntKind.u8.wrap ((a.fdiv (2 ^ min (Int.toNat 32) IntKind.u64.bits)).fdiv (2 ^ min (Int.toNat 8) IntKind.u64.bits))∧IntKind.u8.wrap ((a.fdiv (2 ^ min (Int.toNat 32) IntKind.u64.bits)).fdiv (2 ^ min (Int.toNat 8) IntKind.u64.bits))<(↑bt14413_0.size:Int)))
 (R (V Z (Z.wrap (40+(Z.wrap (byteAt z1 ((IntKind.u8.wrap ((a.fdiv 4294967296).fdiv 256)).toNat)))))) [] [])
   False)
 (cnd (decide (0≤IntKind.u8.wrap (a.fdiv (2 ^ min (Int.toNat 32) IntKind.u64.bits))∧IntKind.u8.wrap (a.fdiv (2 ^ min (Int.toNat 32) IntKind.u64.bits))<(↑bt14413_0.size:Int)))
 (R (V Z (Z.wrap (32+(Z.wrap (byteAt z1 ((IntKind.u8.wrap (a.fdiv 4294967296)).toNat)))))) [] [])
   False)))
 (cnd (decide (65536≤a))
 (cnd (decide (256≤(a.fdiv 65536)))
 (cnd (decide (0≤IntKind.u8.wrap ((a.fdiv (2 ^ min (Int.toNat 16) IntKind.u64.bits)).fdiv (2 ^ min (Int.toNat 8) IntKind.u64.bits))∧IntKind.u8.wrap ((a.fdiv (2 ^ min (Int.toNat 16) IntKind.u64.bits)).fdiv (2 ^ min (Int.toNat 8) IntKind.u64.bits))<(↑bt14413_0.size:Int)))
 (R (V Z (Z.wrap (24+(Z.wrap (byteAt z1 ((IntKind.u8.wrap ((a.fdiv 65536).fdiv 256)).toNat)))))) [] [])
   False)
 (cnd (decide (0≤IntKind.u8.wrap (a.fdiv (2 ^ min (Int.toNat 16) IntKind.u64.bits))∧IntKind.u8.wrap (a.fdiv (2 ^ min (Int.toNat 16) IntKind.u64.bits))<(↑bt14413_0.size:Int)))
 (R (V Z (Z.wrap (16+(Z.wrap (byteAt z1 ((IntKind.u8.wrap (a.fdiv 65536)).toNat)))))) [] [])
   False))
 (cnd (decide (256≤a))
 (cnd (decide (0≤IntKind.u8.wrap (a.fdiv (2 ^ min (Int.toNat 8) IntKind.u64.bits))∧IntKind.u8.wrap (a.fdiv (2 ^ min (Int.toNat 8) IntKind.u64.bits))<(↑bt14413_0.size:Int)))
 (R (V Z (Z.wrap (8+(Z.wrap (byteAt z1 ((IntKind.u8.wrap (a.fdiv 256)).toNat)))))) [] [])
   False)
 (cnd (decide ((0:Int)≤IntKind.u8.wrap a∧IntKind.u8.wrap a<(↑bt48795_2.size:Int)))
 (R (V Z (Z.wrap (0+(Z.wrap (byteAt z1 ((IntKind.u8.wrap a).toNat)))))) [] [])
   False))))
def w127 (a z0:Int) (z1:ByteArray):Int :=
 (cond (decide (4294967296≤a)) (cond (decide (65536≤(a.fdiv 4294967296))) (cond (decide (256≤z0)) (Z.wrap (56+(Z.wrap (byteAt z1 ((IntKind.u8.wrap (z0.fdiv 256)).toNat))))) (Z.wrap (48+(Z.wrap (byteAt z1 ((IntKind.u8.wrap z0).toNat)))))) (cond (decide (256≤(a.fdiv 4294967296))) (Z.wrap (40+(Z.wrap (byteAt z1 ((IntKind.u8.wrap ((a.fdiv 4294967296).fdiv 256)).toNat))))) (Z.wrap (32+(Z.wrap (byteAt z1 ((IntKind.u8.wrap (a.fdiv 4294967296)).toNat))))))) (cond (decide (65536≤a)) (cond (decide (256≤(a.fdiv 65536))) (Z.wrap (24+(Z.wrap (byteAt z1 ((IntKind.u8.wrap ((a.fdiv 65536).fdiv 256)).toNat))))) (Z.wrap (16+(Z.wrap (byteAt z1 ((IntKind.u8.wrap (a.fdiv 65536)).toNat)))))) (cond (decide (256≤a)) (Z.wrap (8+(Z.wrap (byteAt z1 ((IntKind.u8.wrap (a.fdiv 256)).toNat))))) (Z.wrap (0+(Z.wrap (byteAt z1 ((IntKind.u8.wrap a).toNat))))))))
def v127 (a z0:Int) (z1:ByteArray):Bool :=
 (cond (decide (4294967296≤a)) (cond (decide (65536≤(a.fdiv 4294967296))) (cond (decide (256≤z0)) ((decide (0≤IntKind.u8.wrap (((a.fdiv (2 ^ min (Int.toNat 32) IntKind.u64.bits)).fdiv (2 ^ min (Int.toNat 16) IntKind.u64.bits)).fdiv (2 ^ min (Int.toNat 8) IntKind.u64.bits))∧IntKind.u8.wrap (((a.fdiv (2 ^ min (Int.toNat 32) IntKind.u64.bits)).fdiv (2 ^ min (Int.toNat 16) IntKind.u64.bits)).fdiv (2 ^ min (Int.toNat 8) IntKind.u64.bits))<(↑bt14413_0.size:Int)))&&true) ((decide (0≤IntKind.u8.wrap ((a.fdiv (2 ^ min (Int.toNat 32) IntKind.u64.bits)).fdiv (2 ^ min (Int.toNat 16) IntKind.u64.bits))∧IntKind.u8.wrap ((a.fdiv (2 ^ min (Int.toNat 32) IntKind.u64.bits)).fdiv (2 ^ min (Int.toNat 16) IntKind.u64.bits))<(↑bt14413_0.size:Int)))&&true)) (cond (decide (256≤(a.fdiv 4294967296))) ((decide (0≤IntKind.u8.wrap ((a.fdiv (2 ^ min (Int.toNat 32) IntKind.u64.bits)).fdiv (2 ^ min (Int.toNat 8) IntKind.u64.bits))∧IntKind.u8.wrap ((a.fdiv (2 ^ min (Int.toNat 32) IntKind.u64.bits)).fdiv (2 ^ min (Int.toNat 8) IntKind.u64.bits))<(↑bt14413_0.size:Int)))&&true) ((decide (0≤IntKind.u8.wrap (a.fdiv (2 ^ min (Int.toNat 32) IntKind.u64.bits))∧IntKind.u8.wrap (a.fdiv (2 ^ min (Int.toNat 32) IntKind.u64.bits))<(↑bt14413_0.size:Int)))&&true))) (cond (decide (65536≤a)) (cond (decide (256≤(a.fdiv 65536))) ((decide (0≤IntKind.u8.wrap ((a.fdiv (2 ^ min (Int.toNat 16) IntKind.u64.bits)).fdiv (2 ^ min (Int.toNat 8) IntKind.u64.bits))∧IntKind.u8.wrap ((a.fdiv (2 ^ min (Int.toNat 16) IntKind.u64.bits)).fdiv (2 ^ min (Int.toNat 8) IntKind.u64.bits))<(↑bt14413_0.size:Int)))&&true) ((decide (0≤IntKind.u8.wrap (a.fdiv (2 ^ min (Int.toNat 16) IntKind.u64.bits))∧IntKind.u8.wrap (a.fdiv (2 ^ min (Int.toNat 16) IntKind.u64.bits))<(↑bt14413_0.size:Int)))&&true)) (cond (decide (256≤a)) ((decide (0≤IntKind.u8.wrap (a.fdiv (2 ^ min (Int.toNat 8) IntKind.u64.bits))∧IntKind.u8.wrap (a.fdiv (2 ^ min (Int.toNat 8) IntKind.u64.bits))<(↑bt14413_0.size:Int)))&&true) ((decide ((0:Int)≤IntKind.u8.wrap a∧IntKind.u8.wrap a<(↑bt48795_2.size:Int)))&&true))))
def m127 (a:Int):Int:=w127 a (t127_0 a) (t127_1 a)
def n127 (a:Int):Bool:=v127 a (t127_0 a) (t127_1 a)
def q127 (r:Int):SV × List Blk × List Blk:=(V Z r,[],[])
def g127:GF:=fun vs bs=>match vs,bs with
 | [.int .u64 a],[]=>some (rs 0 (q127 (m127 a)) [n127 a])
 | _,_=>none
def c127:Ctr:=genC [.k] g127
theorem u127 (a z0:Int) (z1:ByteArray) (hn:v127 a z0 z1=true):U127 a z0 z1 (fun v U N=>(v,U,N)=q127 (w127 a z0 z1)) :=
 co (fun h0=>co (fun h1=>co (fun h2=>cn (al (ct h2 (ct h1 (ct h0 hn)))) (lf (cT h0 (cT h1 (cT h2 rfl))) rfl)) (fun h2=>cn (al (cf h2 (ct h1 (ct h0 hn)))) (lf (cT h0 (cT h1 (cF h2 rfl))) rfl))) (fun h1=>co (fun h2=>cn (al (ct h2 (cf h1 (ct h0 hn)))) (lf (cT h0 (cF h1 (cT h2 rfl))) rfl)) (fun h2=>cn (al (cf h2 (cf h1 (ct h0 hn)))) (lf (cT h0 (cF h1 (cF h2 rfl))) rfl)))) (fun h0=>co (fun h1=>co (fun h2=>cn (al (ct h2 (ct h1 (cf h0 hn)))) (lf (cF h0 (cT h1 (cT h2 rfl))) rfl)) (fun h2=>cn (al (cf h2 (ct h1 (cf h0 hn)))) (lf (cF h0 (cT h1 (cF h2 rfl))) rfl))) (fun h1=>co (fun h2=>cn (al (ct h2 (cf h1 (cf h0 hn)))) (lf (cF h0 (cF h1 (cT h2 rfl))) rfl)) (fun h2=>cn (al (cf h2 (cf h1 (cf h0 hn)))) (lf (cF h0 (cF h1 (cF h2 rfl))) rfl))))
theorem k127:CtrOk Try.prog c127 127:=cx tn mix_ok 8 (fn:=Try.f127) (c:=(Try.f127.body.getD .skip)) (grs:=[]) (rh:=.k) Try.func127 rfl (by kernel_rfl) noLam fun vs bs q h hn=>by
 unfold g127 at h
 split at h <;> cases h
 rename_i a
 have hn:=n1 hn
 exact ⟨_,rfl,ca (fun R=>U127 a (t127_0 a) (t127_1 a) R) (fun R=>by kernel_rfl) (u127 a (t127_0 a) (t127_1 a) hn)⟩
/-! ### slices.insertionSortCmpFunc[shotline/kit.batch] -/
def l118c98_2 (g:Nat) (i l j:Int) (b:Nat):Nat→Int→Dat→Option (Dat)
 | 0,_,_=>none
 | f+1,d,a=>(cond (bif (bif (decide (i<d)) then false else true) then true else (decide (0≤d∧d<↑g))) (cond (bif (bif (decide (i<d)) then false else true) then true else (decide (d.toNat<b))) (cond (bif (bif (decide (i<d)) then false else true) then true else (decide (0≤Z.wrap (d - 1)∧Z.wrap (d - 1)<(↑g:Int)))) (cond (bif (bif (decide (i<d)) then false else true) then true else (decide (((Z.wrap (d - 1)).toNat)<b))) (cond (bif (bif (decide (i<d)) then false else true) then true else (n98 (a.ii d.toNat 0) (a.ii d.toNat 1) (a.ii ((Z.wrap (d - 1)).toNat) 0) (a.ii ((Z.wrap (d - 1)).toNat) 1))) (cond (bif (decide (i<d)) then (decide ((m98 (a.ii d.toNat 0) (a.ii d.toNat 1) (a.ii ((Z.wrap (d - 1)).toNat) 0) (a.ii ((Z.wrap (d - 1)).toNat) 1))<0)) else false) (cond (decide (0≤Z.wrap (d - 1)∧Z.wrap (d - 1)<(↑g:Int))) (cond (decide (((Z.wrap (d - 1)).toNat)<b)) (cond (decide (0≤d∧d<↑g)) (cond (decide (d.toNat<b)) (cond (decide (0≤d∧d<↑g)) (cond (decide (d.toNat<b)) (cond (decide (0≤Z.wrap (d - 1)∧Z.wrap (d - 1)<(↑g:Int))) (cond (decide (((Z.wrap (d - 1)).toNat)<b)) (l118c98_2 g i l j b f (Z.wrap (d - 1)) ((a.upd d.toNat 0 [V Z (a.ii ((Z.wrap (d - 1)).toNat) 0),V Z (a.ii ((Z.wrap (d - 1)).toNat) 1)]).upd ((Z.wrap (d - 1)).toNat) 0 [V Z (a.ii d.toNat 0),V Z (a.ii d.toNat 1)])) none) none) none) none) none) none) none) none) (some a)) none) none) none) none) none)
abbrev o118c98_2 (g:Nat) (i l j:Int) (b:Nat) (d:Int) (a:Dat):Option (Dat):=l118c98_2 g i l j b (g+i.toNat+l.toNat+j.toNat+d.toNat+b+8) d a
def e118c98_2 (g:Nat) (i l j:Int) (b:Nat) (r:Dat) (K:XR):Prop:=K (XE.exit 2) [.gr 0 2 g,V Z i,V Z l,.fn 98 [],V Z j] [.row 133 [W Z,W Z] b r]
def g118c98_2:LSum:=fun s k=>match czv 1 53 [0,1,2,3,8,9] 1 [] s with
 | some ([.gr 0 2 g,V Z i,V Z l,.fn 98 [],V Z j,V Z d],[.row 133 [W Z,W Z] b a])=>needs [(o118c98_2 g i l j b d a).isSome] (e118c98_2 g i l j b ((o118c98_2 g i l j b d a).getD default) fun e vs bs=>inBlk 2 k e (mkSt 1 53 [0,1,2,3,8] vs 1 bs))
 | _=>False
theorem z118c98_2:LOk Try.prog g118c98_2 (.block 2 (bodyAt (Try.f118.body.getD .skip) 2)):=by
 refine lb (ι:=Nat × Int × Int × Int × Int × Nat × Dat) (fuel:=8) (na:=1) (nt:=53) (nx:=1) (Lh:=[0,1,2,3,8,9]) (Le:=[0,1,2,3,8]) (gl:=[]) (tc k98 tn) mix_ok noLam rfl (fun f (g,i,l,j,d,b,a) K=>GG default (e118c98_2 g i l j b) K (l118c98_2 g i l j b f d a)) (fun (g,i,l,j,d,b,a)=>[.gr 0 2 g,V Z i,V Z l,.fn 98 [],V Z j,V Z d]) (fun (g,i,l,j,d,b,a)=>[.row 133 [W Z,W Z] b a]) (fun (_,_,_,_,_,_,_) K=>gg_none) ?_ ?_
 ·rintro f ⟨g,i,l,j,d,b,a⟩ K hG
  refine ro (fun R => 
 let a0:=((Z.wrap (d - 1)).toNat)
 let b0:=(bif (decide (i<d)) then false else true)
 let c0:=(decide (0≤Z.wrap (d - 1)∧Z.wrap (d - 1)<(↑g:Int)))
 let d0:=(decide (0≤d∧d<↑g))
 (cnd (bif b0 then true else d0)
 (cnd (bif b0 then true else (decide (d.toNat<b)))
 (cnd (bif b0 then true else c0)
 (cnd (bif b0 then true else (decide (a0<b)))
 (cnd (bif b0 then true else (n98 (a.ii d.toNat 0) (a.ii d.toNat 1) (a.ii a0 0) (a.ii a0 1)))
 (cnd (bif (decide (i<d)) then (decide ((m98 (a.ii d.toNat 0) (a.ii d.toNat 1) (a.ii a0 0) (a.ii a0 1))<0)) else false)
 (cnd c0
 (cnd (decide (a0<b))
 (cnd d0
 (cnd (decide (d.toNat<b))
 (cnd d0
 (cnd (decide (d.toNat<b))
 (cnd c0
 (cnd (decide (a0<b))
 (R (XE.normal) [.gr 0 2 g,V Z i,V Z l,.fn 98 [],V Z j,V Z (Z.wrap (d - 1))] [.row 133 [W Z,W Z] b ((a.upd d.toNat 0 [V Z (a.ii a0 0),V Z (a.ii a0 1)]).upd a0 0 [V Z (a.ii d.toNat 0),V Z (a.ii d.toNat 1)])])
        False)
       False)
       False)
      False)
      False)
     False)
     False)
    False)
 (R (XE.exit 2) [.gr 0 2 g,V Z i,V Z l,.fn 98 [],V Z j] [.row 133 [W Z,W Z] b a]))
   False)
   False)
  False)
  False)
 False)) (fun R=>by kernel_rfl) ?_
  exact cg hG fun h0=>cg h0 fun h1=>cg h1 fun h2=>cg h2 fun h3=>cg h3 fun h4=>ch h4 (fun h5=>cg h5 fun h6=>cg h6 fun h7=>cg h7 fun h8=>cg h8 fun h9=>cg h9 fun h10=>cg h10 fun h11=>cg h11 fun h12=>cg h12 fun h13=>⟨(_,_,_,_,_,_,_),rfl,rfl,h13⟩) (fun h5=>h5.2)
 ·intro s k h
  unfold g118c98_2 at h
  split at h <;> try exact h.elim
  rename_i e1
  rw [needs_iff] at h
  exact ⟨_,e1,_,(_,_,_,_,_,_,_),rfl,rfl,h.1 _ (List.mem_singleton.2 rfl),h.2⟩
def l118c98_0 (g:Nat) (i l:Int) (b:Nat):Nat→Int→Dat→Option (Dat)
 | 0,_,_=>none
 | f+1,j,a=>(cond (decide (j<l)) (cond ((o118c98_2 g i l j b j a).isSome) (l118c98_0 g i l b f (Z.wrap (j+1)) ((o118c98_2 g i l j b j a).getD default)) none) (some a))
abbrev o118c98_0 (g:Nat) (i l:Int) (b:Nat) (j:Int) (a:Dat):Option (Dat):=l118c98_0 g i l b (g+i.toNat+l.toNat+j.toNat+b+8) j a
def e118c98_0 (g:Nat) (i l:Int) (b:Nat) (r:Dat) (K:XR):Prop:=K (XE.exit 0) [] [.row 133 [W Z,W Z] b r]
def g118c98_0:LSum:=fun s k=>match czv 1 53 [0,1,2,3,8] 1 [] s with
 | some ([.gr 0 2 g,V Z i,V Z l,.fn 98 [],V Z j],[.row 133 [W Z,W Z] b a])=>needs [(o118c98_0 g i l b j a).isSome] (e118c98_0 g i l b ((o118c98_0 g i l b j a).getD default) fun e vs bs=>inBlk 0 k e (mkSt 1 53 [] vs 1 bs))
 | _=>False
theorem z118c98_0:LOk Try.prog g118c98_0 (.block 0 (bodyAt (Try.f118.body.getD .skip) 0)):=by
 refine lb (ι:=Nat × Int × Int × Int × Nat × Dat) (fuel:=8) (na:=1) (nt:=53) (nx:=1) (Lh:=[0,1,2,3,8]) (Le:=[]) (gl:=[]) (tc k98 tn) mix_ok (lam_of rfl (lc z118c98_2 ln)) rfl (fun f (g,i,l,j,b,a) K=>GG default (e118c98_0 g i l b) K (l118c98_0 g i l b f j a)) (fun (g,i,l,j,b,a)=>[.gr 0 2 g,V Z i,V Z l,.fn 98 [],V Z j]) (fun (g,i,l,j,b,a)=>[.row 133 [W Z,W Z] b a]) (fun (_,_,_,_,_,_) K=>gg_none) ?_ ?_
 ·rintro f ⟨g,i,l,j,b,a⟩ K hG
  refine ro (fun R=>(cnd (decide (j<l))
 (cnd ((o118c98_2 g i l j b j a).isSome)
 (R (XE.normal) [.gr 0 2 g,V Z i,V Z l,.fn 98 [],V Z (Z.wrap (j+1))] [.row 133 [W Z,W Z] b ((o118c98_2 g i l j b j a).getD default)])
  False)
 (R (XE.exit 0) [] [.row 133 [W Z,W Z] b a]))) (fun R=>by kernel_rfl) ?_
  exact ch hG (fun h0=>cg h0 fun h1=>⟨(_,_,_,_,_,_),rfl,rfl,h1⟩) (fun h0=>h0.2)
 ·intro s k h
  unfold g118c98_0 at h
  split at h <;> try exact h.elim
  rename_i e1
  rw [needs_iff] at h
  exact ⟨_,e1,_,(_,_,_,_,_,_),rfl,rfl,h.1 _ (List.mem_singleton.2 rfl),h.2⟩
def m118c98 (m ma0:Nat) (n:Dat) (o p:Int):Nat × Dat :=
 (ma0,((o118c98_0 m o p ma0 (Z.wrap (o+1)) n).getD default))
def n118c98 (m ma0:Nat) (n:Dat) (o p:Int):Bool :=
 (((o118c98_0 m o p ma0 (Z.wrap (o+1)) n).isSome)&&true)
def q118c98 (r:Nat × Dat):SV × List Blk × List Blk:=(.tup [],[.row 133 [W Z,W Z] r.1 r.2],[])
def g118c98:GF:=fun vs bs=>match vs,bs with
 | [.gr 0 2 m,V Z o,V Z p,.fn 98 []],[.row 133 [W Z,W Z] ma0 n]=>some (rs 1 (q118c98 (m118c98 m ma0 n o p)) [n118c98 m ma0 n o p])
 | _,_=>none
def c118c98:Ctr:=genC [.gr 133 [W Z,W Z],.k,.k,.f []] g118c98
theorem k118c98:CtrOk Try.prog c118c98 118:=cx (tc k98 tn) mix_ok 8 (fn:=Try.f118) (c:=(Try.f118.body.getD .skip)) (grs:=[]) (rh:=.k) Try.func118 rfl (by kernel_rfl) (lam_of rfl (lc z118c98_2 (lc z118c98_0 ln))) fun vs bs q h hn=>by
 unfold g118c98 at h
 split at h <;> cases h
 rename_i m o p ma0 n
 have hn:=n1 hn
 exact ⟨_,rfl,ca (fun R=>(cnd ((o118c98_0 m o p ma0 (Z.wrap (o+1)) n).isSome)
 (R (.tup []) [.row 133 [W Z,W Z] ma0 ((o118c98_0 m o p ma0 (Z.wrap (o+1)) n).getD default)] [])
 False)) (fun R=>by kernel_rfl) (cn (al hn) (lf rfl rfl))⟩
/-! ### math/bits.Len -/
def m111 (a:Int):Int :=
 (m127 a)
def n111 (a:Int):Bool :=
 ((n127 a)&&true)
def q111 (r:Int):SV × List Blk × List Blk:=(V Z r,[],[])
def g111:GF:=fun vs bs=>match vs,bs with
 | [.int .u64 a],[]=>some (rs 0 (q111 (m111 a)) [n111 a])
 | _,_=>none
def c111:Ctr:=genC [.k] g111
theorem k111:CtrOk Try.prog c111 111:=cx (tc k126 (tc k127 tn)) mix_ok 8 (fn:=Try.f111) (c:=(Try.f111.body.getD .skip)) (grs:=[]) (rh:=.k) Try.func111 rfl (by kernel_rfl) noLam fun vs bs q h hn=>by
 unfold g111 at h
 split at h <;> cases h
 rename_i a
 have hn:=n1 hn
 exact ⟨_,rfl,ca (fun R=>(cnd (n127 a)
 (R (V Z (m127 a)) [] [])
 False)) (fun R=>by kernel_rfl) (cn (al hn) (lf rfl rfl))⟩
/-! ### slices.pdqsortCmpFunc[shotline/kit.batch] -/
def m110c98 (a ma0:Nat) (b:Dat) (d e g:Int):Nat × Dat :=
 ((m118c98 a ma0 b d e).1,(m118c98 a ma0 b d e).2)
def n110c98 (a ma0:Nat) (b:Dat) (d e g:Int):Bool :=
 ((decide ((Z.wrap (e - d))≤12))&&((n118c98 a ma0 b d e)&&true))
def q110c98 (r:Nat × Dat):SV × List Blk × List Blk:=(.tup [],[.row 133 [W Z,W Z] r.1 r.2],[])
def g110c98:GF:=fun vs bs=>match vs,bs with
 | [.gr 0 2 a,V Z d,V Z e,V Z g,.fn 98 []],[.row 133 [W Z,W Z] ma0 b]=>some (rs 1 (q110c98 (m110c98 a ma0 b d e g)) [n110c98 a ma0 b d e g])
 | _,_=>none
def c110c98:Ctr:=genC [.gr 133 [W Z,W Z],.k,.k,.k,.f []] g110c98
theorem k110c98:CtrOk Try.prog c110c98 110:=cx (tc k98 (tc k118c98 tn)) mix_ok 8 (fn:=Try.f110) (c:=(Try.f110.body.getD .skip)) (grs:=[]) (rh:=.k) Try.func110 rfl (by kernel_rfl) noLam fun vs bs q h hn=>by
 unfold g110c98 at h
 split at h <;> cases h
 rename_i a d e g ma0 b
 have hn:=n1 hn
 exact ⟨_,rfl,ca (fun R=>(cnd (decide ((Z.wrap (e - d))≤12))
 (cnd (n118c98 a ma0 b d e)
 (R (.tup []) [.row 133 [W Z,W Z] (m118c98 a ma0 b d e).1 (m118c98 a ma0 b d e).2] [])
  False)
 (cnd (decide (g=0))
  False
  False))) (fun R=>by kernel_rfl) (co (fun _=>cn (al (ar hn)) (lf rfl rfl)) (fun h0=>(Bool.false_ne_true (h0.symm.trans (al hn))).elim))⟩
/-! ### slices.SortFunc[[]shotline/kit.batch,shotline/kit.batch] -/
def m97c98 (a ma0:Nat) (b:Dat):Nat × Dat :=
 ((m110c98 a ma0 b 0 (↑a:Int) (m111 (IntKind.u64.wrap (↑a:Int)))).1,(m110c98 a ma0 b 0 (↑a:Int) (m111 (IntKind.u64.wrap (↑a:Int)))).2)
def n97c98 (a ma0:Nat) (b:Dat):Bool :=
 ((n111 (IntKind.u64.wrap (↑a:Int)))&&((n110c98 a ma0 b 0 (↑a:Int) (m111 (IntKind.u64.wrap (↑a:Int))))&&true))
def q97c98 (r:Nat × Dat):SV × List Blk × List Blk:=(.tup [],[.row 133 [W Z,W Z] r.1 r.2],[])
def g97c98:GF:=fun vs bs=>match vs,bs with
 | [.gr 0 2 a,.fn 98 []],[.row 133 [W Z,W Z] ma0 b]=>some (rs 1 (q97c98 (m97c98 a ma0 b)) [n97c98 a ma0 b])
 | _,_=>none
def c97c98:Ctr:=genC [.gr 133 [W Z,W Z],.f []] g97c98
theorem k97c98:CtrOk Try.prog c97c98 97:=cx (tc k98 (tc k110c98 (tc k111 tn))) mix_ok 8 (fn:=Try.f97) (c:=(Try.f97.body.getD .skip)) (grs:=[]) (rh:=.k) Try.func97 rfl (by kernel_rfl) noLam fun vs bs q h hn=>by
 unfold g97c98 at h
 split at h <;> cases h
 rename_i a ma0 b
 have hn:=n1 hn
 exact ⟨_,rfl,ca (fun R=>(cnd (n111 (IntKind.u64.wrap (↑a:Int)))
 (cnd (n110c98 a ma0 b 0 (↑a:Int) (m111 (IntKind.u64.wrap (↑a:Int))))
 (R (.tup []) [.row 133 [W Z,W Z] (m110c98 a ma0 b 0 (↑a:Int) (m111 (IntKind.u64.wrap (↑a:Int)))).1 (m110c98 a ma0 b 0 (↑a:Int) (m111 (IntKind.u64.wrap (↑a:Int)))).2] [])
  False)
 False)) (fun R=>by kernel_rfl) (cn (al hn) (cn (al (ar hn)) (lf rfl rfl)))⟩
/-! ### slices.Index[[]*shotline/kit.thing,*shotline/kit.thing] -/
def l117rz_0 (a:Nat) (d:Dat) (g:Bool) (b:Nat) (i:Dat) (m:Int):Nat→Int→Option (Bool × (Int) × (Unit))
 | 0,_=>none
 | f+1,l=>(cond (decide (l<m)) (cond (decide (0≤l∧l<↑a)) (cond (bif g then (true&&(b.beq (d.sn l.toNat 0))) else false) (some (true,l,default)) (l117rz_0 a d g b i m f (Z.wrap (l+1)))) none) (some (false,default,())))
abbrev o117rz_0 (a:Nat) (d:Dat) (g:Bool) (b:Nat) (i:Dat) (m l:Int):Option (Bool × (Int) × (Unit)):=l117rz_0 a d g b i m (a+b+m.toNat+l.toNat+8) l
def e117rz_0 (a:Nat) (d:Dat) (g:Bool) (b:Nat) (i:Dat) (m:Int) (r:Bool × (Int) × (Unit)) (K:XR):Prop:=cnd r.1 (K (XE.ret) [V Z r.2.1] []) (K (XE.exit 0) [.any] [])
def g117rz_0:LSum:=fun s k=>match czv 0 19 [0,1,7,8] 0 [] s with
 | some ([.ro [.pz [.str,W Z,W Z,.mi [W Z,W Z,.bool],.mb,.mb,W Z,.bool,.m1]] a d,.rz g b [.str,W Z,W Z,.mi [W Z,W Z,.bool],.mb,.mb,W Z,.bool,.m1] i,V Z m,V Z l],[])=>needs [(o117rz_0 a d g b i m l).isSome] (e117rz_0 a d g b i m ((o117rz_0 a d g b i m l).getD default) fun e vs bs=>inBlk 0 k e (mkSt 0 19 [4] vs 0 bs))
 | _=>False
theorem z117rz_0:LOk Try.prog g117rz_0 (.block 0 (bodyAt (Try.f117.body.getD .skip) 0)):=by
 refine lb (ι:=Nat × Dat × Bool × Nat × Dat × Int × Int) (fuel:=8) (na:=0) (nt:=19) (nx:=0) (Lh:=[0,1,7,8]) (Le:=[4]) (gl:=[]) tn mix_ok noLam rfl (fun f (a,d,g,b,i,m,l) K=>GG default (e117rz_0 a d g b i m) K (l117rz_0 a d g b i m f l)) (fun (a,d,g,b,i,m,l)=>[.ro [.pz [.str,W Z,W Z,.mi [W Z,W Z,.bool],.mb,.mb,W Z,.bool,.m1]] a d,.rz g b [.str,W Z,W Z,.mi [W Z,W Z,.bool],.mb,.mb,W Z,.bool,.m1] i,V Z m,V Z l]) (fun (a,d,g,b,i,m,l)=>[]) (fun (_,_,_,_,_,_,_) K=>gg_none) ?_ ?_
 ·rintro f ⟨a,d,g,b,i,m,l⟩ K hG
  refine ro (fun R=>(cnd (decide (l<m))
 (cnd (decide (0≤l∧l<↑a))
 (cnd (bif g then (true&&(b.beq (d.sn l.toNat 0))) else false)
 (R (XE.ret) [V Z l] [])
 (R (XE.normal) [.ro [.pz [.str,W Z,W Z,.mi [W Z,W Z,.bool],.mb,.mb,W Z,.bool,.m1]] a d,.rz g b [.str,W Z,W Z,.mi [W Z,W Z,.bool],.mb,.mb,W Z,.bool,.m1] i,V Z m,V Z (Z.wrap (l+1))] []))
  False)
 (R (XE.exit 0) [.any] []))) (fun R=>by kernel_rfl) ?_
  exact ch hG (fun h0=>cg h0 fun h1=>ch h1 (fun h2=>h2.2) (fun h2=>⟨(_,_,_,_,_,_,_),rfl,rfl,h2⟩)) (fun h0=>h0.2)
 ·intro s k h
  unfold g117rz_0 at h
  split at h <;> try exact h.elim
  rename_i e1
  rw [needs_iff] at h
  exact ⟨_,e1,_,(_,_,_,_,_,_,_),rfl,rfl,h.1 _ (List.mem_singleton.2 rfl),h.2⟩
def m117rz (j:Nat) (n:Dat) (ia1:Nat) (o:Dat):Int :=
 (cond ((o117rz_0 j n true ia1 o (↑j:Int) 0).getD default).1 ((o117rz_0 j n true ia1 o (↑j:Int) 0).getD default).2.1 (-1))
def n117rz (j:Nat) (n:Dat) (ia1:Nat) (o:Dat):Bool :=
 (((o117rz_0 j n true ia1 o (↑j:Int) 0).isSome)&&true)
def q117rz (r:Int):SV × List Blk × List Blk:=(V Z r,[],[])
def g117rz:GF:=fun vs bs=>match vs,bs with
 | [.ro [.pz [.str,W Z,W Z,.mi [W Z,W Z,.bool],.mb,.mb,W Z,.bool,.m1]] j n,.rz true ia1 [.str,W Z,W Z,.mi [W Z,W Z,.bool],.mb,.mb,W Z,.bool,.m1] o],[]=>some (rs 0 (q117rz (m117rz j n ia1 o)) [n117rz j n ia1 o])
 | _,_=>none
def c117rz:Ctr:=genC [.ro [.pz [.str,W Z,W Z,.mi [W Z,W Z,.bool],.mb,.mb,W Z,.bool,.m1]],.k] g117rz
theorem k117rz:CtrOk Try.prog c117rz 117:=cx tn mix_ok 8 (fn:=Try.f117) (c:=(Try.f117.body.getD .skip)) (grs:=[]) (rh:=.k) Try.func117 rfl (by kernel_rfl) (lam_of rfl (lc z117rz_0 ln)) fun vs bs q h hn=>by
 unfold g117rz at h
 split at h <;> cases h
 rename_i j n ia1 o
 have hn:=n1 hn
 exact ⟨_,rfl,ca (fun R=>(cnd ((o117rz_0 j n true ia1 o (↑j:Int) 0).isSome)
 (cnd ((o117rz_0 j n true ia1 o (↑j:Int) 0).getD default).1
 (R (V Z ((o117rz_0 j n true ia1 o (↑j:Int) 0).getD default).2.1) [] [])
 (R (V Z (-1)) [] []))
 False)) (fun R=>by kernel_rfl) (cn (al hn) (co (fun h0=>lf (cT h0 rfl) rfl) (fun h0=>lf (cF h0 rfl) rfl)))⟩
end
end Go.Proofs.Ytldjapmfmhifkaa

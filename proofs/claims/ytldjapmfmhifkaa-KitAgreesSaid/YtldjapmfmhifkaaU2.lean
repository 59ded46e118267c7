/-
 Contracts of functions: models, equations by the kernel, contracts. Conditions: none.
-/
import Derived.Test.YtldjapmfmhifkaaU1
import Derived.KernelRfl
namespace Go.Proofs.Ytldjapmfmhifkaa
open Go Go.Sy
noncomputable section
set_option linter.unusedVariables false
set_option linter.unusedSimpArgs false
set_option maxRecDepth 100000
set_option maxHeartbeats 2000000
attribute [local irreducible] Go.IntKind.wrap Int.tdiv Int.tmod Int.fdiv
open Go.Sy renaming tabOk_cons->tc,tabOk_nil->tn,cnd_need->cn,leaf_of->lf,cnd_gg->cg,cnd_gg2->ch,cond_f->cf,cond_t->ct,cnd_of->co,callOf->ca,roundOf->ro,cnd_not->nn,lams_cons->lc,lams_nil->ln,condT->cT,condF->cF,need1->n1,resOf->rs,and_l->al,and_r->ar,or_gg->og,ctr_of->cx,loop_blk->lb
open Go.IntKind renaming i64->Z
open Go.Sy.SV renaming int->V
open Go.Sy.Kd renaming int->W
open Decidable renaming decide->aq
open Inhabited renaming default->ax
open Bool renaming false->az,true->aj
open Option renaming some->ak,none->aw
def bt14413_0:ByteArray:={ data:=(([0,1,2,2,3,3,3,3,4,4,4,4,4,4,4,4,5,5,5,5,5,5,5,5,5,5,5,5,5,5,5,5,6,6,6,6,6,6,6,6,6,6,6,6,6,6,6,6,6,6,6,6,6,6,6,6,6,6,6,6,6,6,6,6].append [7,7,7,7,7,7,7,7,7,7,7,7,7,7,7,7,7,7,7,7,7,7,7,7,7,7,7,7,7,7,7,7,7,7,7,7,7,7,7,7,7,7,7,7,7,7,7,7,7,7,7,7,7,7,7,7,7,7,7,7,7,7,7,7]).append ([8,8,8,8,8,8,8,8,8,8,8,8,8,8,8,8,8,8,8,8,8,8,8,8,8,8,8,8,8,8,8,8,8,8,8,8,8,8,8,8,8,8,8,8,8,8,8,8,8,8,8,8,8,8,8,8,8,8,8,8,8,8,8,8].append [8,8,8,8,8,8,8,8,8,8,8,8,8,8,8,8,8,8,8,8,8,8,8,8,8,8,8,8,8,8,8,8,8,8,8,8,8,8,8,8,8,8,8,8,8,8,8,8,8,8,8,8,8,8,8,8,8,8,8,8,8,8,8,8])).toArray }
def bt19670_1:ByteArray:={ data:=#[0,1,2,2,3,3,3,3,4,4,4,4,4,4,4,4,5,5,5,5,5,5,5,5,5,5,5,5,5,5,5,5,6,6,6,6,6,6,6,6,6,6,6,6,6,6,6,6,6,6,6,6,6,6,6,6,6,6,6,6,6,6,6,6,7,7,7,7,7,7,7,7,7,7,7,7,7,7,7,7,7,7,7,7,7,7,7,7,7,7,7,7,7,7,7,7,7,7,7,7,7,7,7,7,7,7,7,7,7,7,7,7,7,7,7,7,7,7,7,7,7,7,7,7,7,7,7,7,8,8,8,8,8,8,8,8,8,8,8,8,8,8,8,8,8,8,8,8,8,8,8,8,8,8,8,8,8,8,8,8,8,8,8,8,8,8,8,8,8,8,8,8,8,8,8,8,8,8,8,8,8,8,8,8,8,8,8,8,8,8,8,8,8,8,8,8,8,8,8,8,8,8,8,8,8,8,8,8,8,8,8,8,8,8,8,8,8,8,8,8,8,8,8,8,8,8,8,8,8,8,8,8,8,8,8,8,8,8,8,8,8,8,8,8,8,8,8,8,8,8,8,8,8,8,8,8] }
def bt48795_2:ByteArray:={ data:=(([(0:UInt8),(1:UInt8),(2:UInt8),(2:UInt8),(3:UInt8),(3:UInt8),(3:UInt8),(3:UInt8),(4:UInt8),(4:UInt8),(4:UInt8),(4:UInt8),(4:UInt8),(4:UInt8),(4:UInt8),(4:UInt8),(5:UInt8),(5:UInt8),(5:UInt8),(5:UInt8),(5:UInt8),(5:UInt8),(5:UInt8),(5:UInt8),(5:UInt8),(5:UInt8),(5:UInt8),(5:UInt8),(5:UInt8),(5:UInt8),(5:UInt8),(5:UInt8),(6:UInt8),(6:UInt8),(6:UInt8),(6:UInt8),(6:UInt8),(6:UInt8),(6:UInt8),(6:UInt8),(6:UInt8),(6:UInt8),(6:UInt8),(6:UInt8),(6:UInt8),(6:UInt8),(6:UInt8),(6:UInt8),(6:UInt8),(6:UInt8),(6:UInt8),(6:UInt8),(6:UInt8),(6:UInt8),(6:UInt8),(6:UInt8),(6:UInt8),(6:UInt8),(6:UInt8),(6:UInt8),(6:UInt8),(6:UInt8),(6:UInt8),(6:UInt8)].append [(7:UInt8),(7:UInt8),(7:UInt8),(7:UInt8),(7:UInt8),(7:UInt8),(7:UInt8),(7:UInt8),(7:UInt8),(7:UInt8),(7:UInt8),(7:UInt8),(7:UInt8),(7:UInt8),(7:UInt8),(7:UInt8),(7:UInt8),(7:UInt8),(7:UInt8),(7:UInt8),(7:UInt8),(7:UInt8),(7:UInt8),(7:UInt8),(7:UInt8),(7:UInt8),(7:UInt8),(7:UInt8),(7:UInt8),(7:UInt8),(7:UInt8),(7:UInt8),(7:UInt8),(7:UInt8),(7:UInt8),(7:UInt8),(7:UInt8),(7:UInt8),(7:UInt8),(7:UInt8),(7:UInt8),(7:UInt8),(7:UInt8),(7:UInt8),(7:UInt8),(7:UInt8),(7:UInt8),(7:UInt8),(7:UInt8),(7:UInt8),(7:UInt8),(7:UInt8),(7:UInt8),(7:UInt8),(7:UInt8),(7:UInt8),(7:UInt8),(7:UInt8),(7:UInt8),(7:UInt8),(7:UInt8),(7:UInt8),(7:UInt8),(7:UInt8)]).append ([(8:UInt8),(8:UInt8),(8:UInt8),(8:UInt8),(8:UInt8),(8:UInt8),(8:UInt8),(8:UInt8),(8:UInt8),(8:UInt8),(8:UInt8),(8:UInt8),(8:UInt8),(8:UInt8),(8:UInt8),(8:UInt8),(8:UInt8),(8:UInt8),(8:UInt8),(8:UInt8),(8:UInt8),(8:UInt8),(8:UInt8),(8:UInt8),(8:UInt8),(8:UInt8),(8:UInt8),(8:UInt8),(8:UInt8),(8:UInt8),(8:UInt8),(8:UInt8),(8:UInt8),(8:UInt8),(8:UInt8),(8:UInt8),(8:UInt8),(8:UInt8),(8:UInt8),(8:UInt8),(8:UInt8),(8:UInt8),(8:UInt8),(8:UInt8),(8:UInt8),(8:UInt8),(8:UInt8),(8:UInt8),(8:UInt8),(8:UInt8),(8:UInt8),(8:UInt8),(8:UInt8),(8:UInt8),(8:UInt8),(8:UInt8),(8:UInt8),(8:UInt8),(8:UInt8),(8:UInt8),(8:UInt8),(8:UInt8),(8:UInt8),(8:UInt8)].append [(8:UInt8),(8:UInt8),(8:UInt8),(8:UInt8),(8:UInt8),(8:UInt8),(8:UInt8),(8:UInt8),(8:UInt8),(8:UInt8),(8:UInt8),(8:UInt8),(8:UInt8),(8:UInt8),(8:UInt8),(8:UInt8),(8:UInt8),(8:UInt8),(8:UInt8),(8:UInt8),(8:UInt8),(8:UInt8),(8:UInt8),(8:UInt8),(8:UInt8),(8:UInt8),(8:UInt8),(8:UInt8),(8:UInt8),(8:UInt8),(8:UInt8),(8:UInt8),(8:UInt8),(8:UInt8),(8:UInt8),(8:UInt8),(8:UInt8),(8:UInt8),(8:UInt8),(8:UInt8),(8:UInt8),(8:UInt8),(8:UInt8),(8:UInt8),(8:UInt8),(8:UInt8),(8:UInt8),(8:UInt8),(8:UInt8),(8:UInt8),(8:UInt8),(8:UInt8),(8:UInt8),(8:UInt8),(8:UInt8),(8:UInt8),(8:UInt8),(8:UInt8),(8:UInt8),(8:UInt8),(8:UInt8),(8:UInt8),(8:UInt8),(8:UInt8)])).toArray }
/-! ### shotline/shotlineref07.Reasons -/
def l25_0(p:Nat)(u:Dat)(M N:Int)(t:Nat)(v:Dat)(o:Nat)(n:Dat)(x:ByteArray)(w y:Int):Nat->Nat->Int->Dat->Option (Nat × Nat × Dat)
 | 0,_,_,_=>aw
 | f+1,D,C,A=>(cond (aq (C<(o:Int))) (cond (aq (0<=C/\C<↑o)) (cond (cond (aq ((n.ii C.toNat 1)=w)) az aj) (l25_0 p u M N t v o n x w y f D (Z.wrap (C+1)) A) (cond (n69 t v o n p u M C) (cond (cond (m69 t v o n p u M C).2.2 az aj) (cond (aq ((D+1)<=1073741824)) (l25_0 p u M N t v o n x w y f (D+1) (Z.wrap (C+1)) (A.app D (datS [V Z 0,SV.str (n.ss C.toNat 0),SV.str ({ data:=#[] }:ByteArray),V Z 0] 4))) aw) (cond (bif (cond (aq ((n.ii C.toNat 2)=0)) az aj) then (aq ((Z.wrap ((m69 t v o n p u M C).1+(n.ii C.toNat 2)))<N)) else az) (cond (aq ((D+1)<=1073741824)) (l25_0 p u M N t v o n x w y f (D+1) (Z.wrap (C+1)) (A.app D (datS [V Z 1,SV.str (n.ss C.toNat 0),SV.str ({ data:=#[] }:ByteArray),V Z 0] 4))) aw) (cond (bif (cond (aq ((n.ii C.toNat 3)=0)) az aj) then (aq ((n.ii C.toNat 3)<=(m69 t v o n p u M C).2.1)) else az) (cond (aq ((D+1)<=1073741824)) (l25_0 p u M N t v o n x w y f (D+1) (Z.wrap (C+1)) (A.app D (datS [V Z 2,SV.str (n.ss C.toNat 0),SV.str ({ data:=#[] }:ByteArray),V Z 0] 4))) aw) (l25_0 p u M N t v o n x w y f D (Z.wrap (C+1)) A)))) aw)) aw) (ak (D,D,A)))
abbrev o25_0(p:Nat)(u:Dat)(M N:Int)(t:Nat)(v:Dat)(o:Nat)(n:Dat)(x:ByteArray)(w y:Int)(D:Nat)(C:Int)(A:Dat):Option (Nat × Nat × Dat):=l25_0 p u M N t v o n x w y (p+M.toNat+N.toNat+D+C.toNat+t+o+x.size+w.toNat+y.toNat+8) D C A
def e25_0(p:Nat)(u:Dat)(M N:Int)(t:Nat)(v:Dat)(o:Nat)(n:Dat)(x:ByteArray)(w y:Int)(r:Nat × Nat × Dat)(K:XR):Prop:=K (XE.exit 0) [.ro [W Z,W Z,.str,.str,.str,.bool] p u,.ptr 0 0,.gr 2 4 r.1,.ptr 1 0] [.cells 25 [.ro [.str,W Z,W Z] t v,.ro [.str,W Z,W Z,W Z] o n],.cells 65 [.str x,V Z w,V Z y],.row 49 [W Z,.str,.str,W Z] r.2.1 r.2.2]
def g25_0:LSum:=fun s k=>match czv 0 149 [1,2,3,4,9,10,11] 3 [⟨aj,9,0,2,49,[W Z,.str,.str,W Z]⟩] s with
 | ak ([.ro [W Z,W Z,.str,.str,.str,.bool] p u,V Z M,V Z N,.ptr 0 0,.gr 2 4 D,.ptr 1 0,V Z C],[.cells 25 [.ro [.str,W Z,W Z] t v,.ro [.str,W Z,W Z,W Z] o n],.cells 65 [.str x,V Z w,V Z y],.row 49 [W Z,.str,.str,W Z] L A])=>needs [decide (D=L),(o25_0 p u M N t v o n x w y D C A).isSome] (e25_0 p u M N t v o n x w y ((o25_0 p u M N t v o n x w y D C A).getD ax) fun e vs bs=>inBlk 0 k e (mkSt 0 149 [1,4,9,10] vs 3 bs))
 | _=>False
theorem z25_0:LOk Try.prog g25_0 (.block 0 (bodyAt (Try.f25.body.getD .skip) 0)):=by
 refine lb (ι:=Nat × Dat × Int × Int × Nat × Int × Nat × Dat × Nat × Dat × ByteArray × Int × Int × Dat) (fuel:=8) (na:=0) (nt:=149) (nx:=3) (Lh:=[1,2,3,4,9,10,11]) (Le:=[1,4,9,10]) (gl:=[⟨aj,9,0,2,49,[W Z,.str,.str,W Z]⟩]) (tc k33 (tc k36 (tc k46 (tc k69 (tc k70 tn))))) mix_ok noLam rfl (fun f (p,u,M,N,D,C,t,v,o,n,x,w,y,A) K=>GG ax (e25_0 p u M N t v o n x w y) K (l25_0 p u M N t v o n x w y f D C A)) (fun (p,u,M,N,D,C,t,v,o,n,x,w,y,A)=>[.ro [W Z,W Z,.str,.str,.str,.bool] p u,V Z M,V Z N,.ptr 0 0,.gr 2 4 D,.ptr 1 0,V Z C]) (fun (p,u,M,N,D,C,t,v,o,n,x,w,y,A)=>[.cells 25 [.ro [.str,W Z,W Z] t v,.ro [.str,W Z,W Z,W Z] o n],.cells 65 [.str x,V Z w,V Z y],.row 49 [W Z,.str,.str,W Z] D A]) (fun (_,_,_,_,_,_,_,_,_,_,_,_,_,_) K=>gg_none) ?_ ?_
 ·rintro f ⟨p,u,M,N,D,C,t,v,o,n,x,w,y,A⟩ K hG
  refine ro (fun R => 
 let a0:=(aq ((D+1)<=1073741824))
 let b0:=({ data:=#[] }:ByteArray)
 (cnd (aq (C<(o:Int)))
 (cnd (aq (0<=C/\C<↑o))
 (cnd (cond (aq ((n.ii C.toNat 1)=w)) az aj)
 (R (XE.normal) [.ro [W Z,W Z,.str,.str,.str,.bool] p u,V Z M,V Z N,.ptr 0 0,.gr 2 4 D,.ptr 1 0,V Z (Z.wrap (C+1))] [.cells 25 [.ro [.str,W Z,W Z] t v,.ro [.str,W Z,W Z,W Z] o n],.cells 65 [.str x,V Z w,V Z y],.row 49 [W Z,.str,.str,W Z] D A])
 (cnd (n69 t v o n p u M C)
 (cnd (cond (m69 t v o n p u M C).2.2 az aj)
 (cnd (aq (D<=D))
 (cnd a0
 (R (XE.normal) [.ro [W Z,W Z,.str,.str,.str,.bool] p u,V Z M,V Z N,.ptr 0 0,.gr 2 4 (D+1),.ptr 1 0,V Z (Z.wrap (C+1))] [.cells 25 [.ro [.str,W Z,W Z] t v,.ro [.str,W Z,W Z,W Z] o n],.cells 65 [.str x,V Z w,V Z y],.row 49 [W Z,.str,.str,W Z] (D+1) (A.app D (datS [V Z 0,SV.str (n.ss C.toNat 0),SV.str b0,V Z 0] 4))])
    False)
    False)
 (cnd (bif (cond (aq ((n.ii C.toNat 2)=0)) az aj) then (aq ((Z.wrap ((m69 t v o n p u M C).1+(n.ii C.toNat 2)))<N)) else az)
 (cnd (aq (D<=D))
 (cnd a0
 (R (XE.normal) [.ro [W Z,W Z,.str,.str,.str,.bool] p u,V Z M,V Z N,.ptr 0 0,.gr 2 4 (D+1),.ptr 1 0,V Z (Z.wrap (C+1))] [.cells 25 [.ro [.str,W Z,W Z] t v,.ro [.str,W Z,W Z,W Z] o n],.cells 65 [.str x,V Z w,V Z y],.row 49 [W Z,.str,.str,W Z] (D+1) (A.app D (datS [V Z 1,SV.str (n.ss C.toNat 0),SV.str b0,V Z 0] 4))])
     False)
    False)
 (cnd (bif (cond (aq ((n.ii C.toNat 3)=0)) az aj) then (aq ((n.ii C.toNat 3)<=(m69 t v o n p u M C).2.1)) else az)
 (cnd (aq (D<=D))
 (cnd a0
 (R (XE.normal) [.ro [W Z,W Z,.str,.str,.str,.bool] p u,V Z M,V Z N,.ptr 0 0,.gr 2 4 (D+1),.ptr 1 0,V Z (Z.wrap (C+1))] [.cells 25 [.ro [.str,W Z,W Z] t v,.ro [.str,W Z,W Z,W Z] o n],.cells 65 [.str x,V Z w,V Z y],.row 49 [W Z,.str,.str,W Z] (D+1) (A.app D (datS [V Z 2,SV.str (n.ss C.toNat 0),SV.str b0,V Z 0] 4))])
     False)
     False)
 (R (XE.normal) [.ro [W Z,W Z,.str,.str,.str,.bool] p u,V Z M,V Z N,.ptr 0 0,.gr 2 4 D,.ptr 1 0,V Z (Z.wrap (C+1))] [.cells 25 [.ro [.str,W Z,W Z] t v,.ro [.str,W Z,W Z,W Z] o n],.cells 65 [.str x,V Z w,V Z y],.row 49 [W Z,.str,.str,W Z] D A]))))
   False))
  False)
 (R (XE.exit 0) [.ro [W Z,W Z,.str,.str,.str,.bool] p u,.ptr 0 0,.gr 2 4 D,.ptr 1 0] [.cells 25 [.ro [.str,W Z,W Z] t v,.ro [.str,W Z,W Z,W Z] o n],.cells 65 [.str x,V Z w,V Z y],.row 49 [W Z,.str,.str,W Z] D A]))) (fun R=>by kernel_rfl) ?_
  exact ch hG (fun h0=>cg h0 fun h1=>ch h1 (fun h2=>⟨(_,_,_,_,_,_,_,_,_,_,_,_,_,_),rfl,rfl,h2⟩) (fun h2=>cg h2 fun h3=>ch h3 (fun h4=>cn (decide_eq_true (Nat.le_refl _)) (cg h4 fun h5=>⟨(_,_,_,_,_,_,_,_,_,_,_,_,_,_),rfl,rfl,h5⟩)) (fun h4=>ch h4 (fun h5=>cn (decide_eq_true (Nat.le_refl _)) (cg h5 fun h6=>⟨(_,_,_,_,_,_,_,_,_,_,_,_,_,_),rfl,rfl,h6⟩)) (fun h5=>ch h5 (fun h6=>cn (decide_eq_true (Nat.le_refl _)) (cg h6 fun h7=>⟨(_,_,_,_,_,_,_,_,_,_,_,_,_,_),rfl,rfl,h7⟩)) (fun h6=>⟨(_,_,_,_,_,_,_,_,_,_,_,_,_,_),rfl,rfl,h6⟩))))) (fun h0=>h0.2)
 ·intro s k h
  unfold g25_0 at h
  split at h <;> try exact h.elim
  rename_i e1
  rw [needs_iff] at h
  have hq:=h.1
  simp only [List.mem_cons,forall_eq_or_imp,decide_eq_true_eq,List.not_mem_nil,false_imp_iff,implies_true,and_true] at hq
  obtain ⟨rfl,hq⟩:=hq
  exact ⟨_,e1,_,(_,_,_,_,_,_,_,_,_,_,_,_,_,_),rfl,rfl,hq,h.2⟩
def l25_3(p:Nat)(u:Dat)(G:Nat)(J:Dat)(F:Nat)(E:Dat)(t:Nat)(v:Dat)(o:Nat)(n:Dat)(x:ByteArray)(w y:Int):Nat->Nat->Int->Nat->Dat->Option (Nat × Nat × Dat)
 | 0,_,_,_,_=>aw
 | f+1,D,I,L,A=>(cond (aq (I<(F:Int))) (cond (aq (0<=I/\I<↑F)) (cond (n70 G J (E.ss I.toNat 0) (E.ii I.toNat 1)) (cond (m70 G J (E.ss I.toNat 0) (E.ii I.toNat 1)) (cond (aq (0<=I/\I<↑F)) (cond (aq (D<=L)) (cond (aq ((D+1)<=1073741824)) (l25_3 p u G J F E t v o n x w y f (D+1) (Z.wrap (I+1)) (D+1) (A.app D (datS [V Z 3,SV.str ({ data:=#[] }:ByteArray),SV.str (E.ss I.toNat 0),V Z (E.ii I.toNat 1)] 4))) aw) aw) aw) (l25_3 p u G J F E t v o n x w y f D (Z.wrap (I+1)) L A)) aw) aw) (ak (D,L,A)))
abbrev o25_3(p:Nat)(u:Dat)(G:Nat)(J:Dat)(F:Nat)(E:Dat)(t:Nat)(v:Dat)(o:Nat)(n:Dat)(x:ByteArray)(w y:Int)(D:Nat)(I:Int)(L:Nat)(A:Dat):Option (Nat × Nat × Dat):=l25_3 p u G J F E t v o n x w y (p+D+G+F+I.toNat+t+o+x.size+w.toNat+y.toNat+L+8) D I L A
def e25_3(p:Nat)(u:Dat)(G:Nat)(J:Dat)(F:Nat)(E:Dat)(t:Nat)(v:Dat)(o:Nat)(n:Dat)(x:ByteArray)(w y:Int)(r:Nat × Nat × Dat)(K:XR):Prop:=K (XE.exit 3) [.ro [W Z,W Z,.str,.str,.str,.bool] p u,.gr 2 4 r.1,.ptr 1 0] [.cells 25 [.ro [.str,W Z,W Z] t v,.ro [.str,W Z,W Z,W Z] o n],.cells 65 [.str x,V Z w,V Z y],.row 49 [W Z,.str,.str,W Z] r.2.1 r.2.2]
def g25_3:LSum:=fun s k=>match czv 0 149 [1,9,10,14,15,17] 3 [⟨aj,9,0,2,49,[W Z,.str,.str,W Z]⟩] s with
 | ak ([.ro [W Z,W Z,.str,.str,.str,.bool] p u,.gr 2 4 D,.ptr 1 0,.ro [.str,W Z] G J,.ro [.str,W Z] F E,V Z I],[.cells 25 [.ro [.str,W Z,W Z] t v,.ro [.str,W Z,W Z,W Z] o n],.cells 65 [.str x,V Z w,V Z y],.row 49 [W Z,.str,.str,W Z] L A])=>needs [(o25_3 p u G J F E t v o n x w y D I L A).isSome] (e25_3 p u G J F E t v o n x w y ((o25_3 p u G J F E t v o n x w y D I L A).getD ax) fun e vs bs=>inBlk 3 k e (mkSt 0 149 [1,9,10] vs 3 bs))
 | _=>False
theorem z25_3:LOk Try.prog g25_3 (.block 3 (bodyAt (Try.f25.body.getD .skip) 3)):=by
 refine lb (ι:=Nat × Dat × Nat × Nat × Dat × Nat × Dat × Int × Nat × Dat × Nat × Dat × ByteArray × Int × Int × Nat × Dat) (fuel:=8) (na:=0) (nt:=149) (nx:=3) (Lh:=[1,9,10,14,15,17]) (Le:=[1,9,10]) (gl:=[⟨aj,9,0,2,49,[W Z,.str,.str,W Z]⟩]) (tc k33 (tc k36 (tc k46 (tc k69 (tc k70 tn))))) mix_ok (lam_of rfl (lc z25_0 ln)) rfl (fun f (p,u,D,G,J,F,E,I,t,v,o,n,x,w,y,L,A) K=>GG ax (e25_3 p u G J F E t v o n x w y) K (l25_3 p u G J F E t v o n x w y f D I L A)) (fun (p,u,D,G,J,F,E,I,t,v,o,n,x,w,y,L,A)=>[.ro [W Z,W Z,.str,.str,.str,.bool] p u,.gr 2 4 D,.ptr 1 0,.ro [.str,W Z] G J,.ro [.str,W Z] F E,V Z I]) (fun (p,u,D,G,J,F,E,I,t,v,o,n,x,w,y,L,A)=>[.cells 25 [.ro [.str,W Z,W Z] t v,.ro [.str,W Z,W Z,W Z] o n],.cells 65 [.str x,V Z w,V Z y],.row 49 [W Z,.str,.str,W Z] L A]) (fun (_,_,_,_,_,_,_,_,_,_,_,_,_,_,_,_,_) K=>gg_none) ?_ ?_
 ·rintro f ⟨p,u,D,G,J,F,E,I,t,v,o,n,x,w,y,L,A⟩ K hG
  refine ro (fun R=>(cnd (aq (I<(F:Int)))
 (cnd (aq (0<=I/\I<↑F))
 (cnd (n70 G J (E.ss I.toNat 0) (E.ii I.toNat 1))
 (cnd (m70 G J (E.ss I.toNat 0) (E.ii I.toNat 1))
 (cnd (aq (0<=I/\I<↑F))
 (cnd (aq (D<=L))
 (cnd (aq ((D+1)<=1073741824))
 (R (XE.normal) [.ro [W Z,W Z,.str,.str,.str,.bool] p u,.gr 2 4 (D+1),.ptr 1 0,.ro [.str,W Z] G J,.ro [.str,W Z] F E,V Z (Z.wrap (I+1))] [.cells 25 [.ro [.str,W Z,W Z] t v,.ro [.str,W Z,W Z,W Z] o n],.cells 65 [.str x,V Z w,V Z y],.row 49 [W Z,.str,.str,W Z] (D+1) (A.app D (datS [V Z 3,SV.str ({ data:=#[] }:ByteArray),SV.str (E.ss I.toNat 0),V Z (E.ii I.toNat 1)] 4))])
    False)
    False)
   False)
 (R (XE.normal) [.ro [W Z,W Z,.str,.str,.str,.bool] p u,.gr 2 4 D,.ptr 1 0,.ro [.str,W Z] G J,.ro [.str,W Z] F E,V Z (Z.wrap (I+1))] [.cells 25 [.ro [.str,W Z,W Z] t v,.ro [.str,W Z,W Z,W Z] o n],.cells 65 [.str x,V Z w,V Z y],.row 49 [W Z,.str,.str,W Z] L A]))
  False)
  False)
 (R (XE.exit 3) [.ro [W Z,W Z,.str,.str,.str,.bool] p u,.gr 2 4 D,.ptr 1 0] [.cells 25 [.ro [.str,W Z,W Z] t v,.ro [.str,W Z,W Z,W Z] o n],.cells 65 [.str x,V Z w,V Z y],.row 49 [W Z,.str,.str,W Z] L A]))) (fun R=>by kernel_rfl) ?_
  exact ch hG (fun h0=>cg h0 fun h1=>cg h1 fun h2=>ch h2 (fun h3=>cg h3 fun h4=>cg h4 fun h5=>cg h5 fun h6=>⟨(_,_,_,_,_,_,_,_,_,_,_,_,_,_,_,_,_),rfl,rfl,h6⟩) (fun h3=>⟨(_,_,_,_,_,_,_,_,_,_,_,_,_,_,_,_,_),rfl,rfl,h3⟩)) (fun h0=>h0.2)
 ·intro s k h
  unfold g25_3 at h
  split at h <;> try exact h.elim
  rename_i e1
  rw [needs_iff] at h
  exact ⟨_,e1,_,(_,_,_,_,_,_,_,_,_,_,_,_,_,_,_,_,_),rfl,rfl,h.1 _ (List.mem_singleton.2 rfl),h.2⟩
def m25(d:Nat)(b:Dat)(g:Nat)(i:Dat)(l:Nat)(m:Dat)(j z:Int):Nat × Nat × Dat :=
 (cond (aq ((b.ii j.toNat 1)=1)) (cond (bif (aq ((b.ii j.toNat 1)=3)) then (m46 l m (b.ss j.toNat 0)).2 else az) ((((o25_3 l m (m33 d b g i l m).1 (m33 d b g i l m).2 (m36 d b g i l m (b.ss j.toNat 0)).1 (m36 d b g i l m (b.ss j.toNat 0)).2.1 d b g i (b.ss j.toNat 0) (b.ii j.toNat 1) (b.ii j.toNat 2) ((o25_0 l m j z d b g i (b.ss j.toNat 0) (b.ii j.toNat 1) (b.ii j.toNat 2) 0 0 noDat).getD ax).1 0 ((o25_0 l m j z d b g i (b.ss j.toNat 0) (b.ii j.toNat 1) (b.ii j.toNat 2) 0 0 noDat).getD ax).2.1 ((o25_0 l m j z d b g i (b.ss j.toNat 0) (b.ii j.toNat 1) (b.ii j.toNat 2) 0 0 noDat).getD ax).2.2).getD ax).1+1),(((o25_3 l m (m33 d b g i l m).1 (m33 d b g i l m).2 (m36 d b g i l m (b.ss j.toNat 0)).1 (m36 d b g i l m (b.ss j.toNat 0)).2.1 d b g i (b.ss j.toNat 0) (b.ii j.toNat 1) (b.ii j.toNat 2) ((o25_0 l m j z d b g i (b.ss j.toNat 0) (b.ii j.toNat 1) (b.ii j.toNat 2) 0 0 noDat).getD ax).1 0 ((o25_0 l m j z d b g i (b.ss j.toNat 0) (b.ii j.toNat 1) (b.ii j.toNat 2) 0 0 noDat).getD ax).2.1 ((o25_0 l m j z d b g i (b.ss j.toNat 0) (b.ii j.toNat 1) (b.ii j.toNat 2) 0 0 noDat).getD ax).2.2).getD ax).1+1),(((o25_3 l m (m33 d b g i l m).1 (m33 d b g i l m).2 (m36 d b g i l m (b.ss j.toNat 0)).1 (m36 d b g i l m (b.ss j.toNat 0)).2.1 d b g i (b.ss j.toNat 0) (b.ii j.toNat 1) (b.ii j.toNat 2) ((o25_0 l m j z d b g i (b.ss j.toNat 0) (b.ii j.toNat 1) (b.ii j.toNat 2) 0 0 noDat).getD ax).1 0 ((o25_0 l m j z d b g i (b.ss j.toNat 0) (b.ii j.toNat 1) (b.ii j.toNat 2) 0 0 noDat).getD ax).2.1 ((o25_0 l m j z d b g i (b.ss j.toNat 0) (b.ii j.toNat 1) (b.ii j.toNat 2) 0 0 noDat).getD ax).2.2).getD ax).2.2.app ((o25_3 l m (m33 d b g i l m).1 (m33 d b g i l m).2 (m36 d b g i l m (b.ss j.toNat 0)).1 (m36 d b g i l m (b.ss j.toNat 0)).2.1 d b g i (b.ss j.toNat 0) (b.ii j.toNat 1) (b.ii j.toNat 2) ((o25_0 l m j z d b g i (b.ss j.toNat 0) (b.ii j.toNat 1) (b.ii j.toNat 2) 0 0 noDat).getD ax).1 0 ((o25_0 l m j z d b g i (b.ss j.toNat 0) (b.ii j.toNat 1) (b.ii j.toNat 2) 0 0 noDat).getD ax).2.1 ((o25_0 l m j z d b g i (b.ss j.toNat 0) (b.ii j.toNat 1) (b.ii j.toNat 2) 0 0 noDat).getD ax).2.2).getD ax).1 (datS [V Z 3,SV.str ({ data:=#[] }:ByteArray),SV.str (b.ss j.toNat 0),V Z (m46 l m (b.ss j.toNat 0)).1] 4))) (((o25_3 l m (m33 d b g i l m).1 (m33 d b g i l m).2 (m36 d b g i l m (b.ss j.toNat 0)).1 (m36 d b g i l m (b.ss j.toNat 0)).2.1 d b g i (b.ss j.toNat 0) (b.ii j.toNat 1) (b.ii j.toNat 2) ((o25_0 l m j z d b g i (b.ss j.toNat 0) (b.ii j.toNat 1) (b.ii j.toNat 2) 0 0 noDat).getD ax).1 0 ((o25_0 l m j z d b g i (b.ss j.toNat 0) (b.ii j.toNat 1) (b.ii j.toNat 2) 0 0 noDat).getD ax).2.1 ((o25_0 l m j z d b g i (b.ss j.toNat 0) (b.ii j.toNat 1) (b.ii j.toNat 2) 0 0 noDat).getD ax).2.2).getD ax).1,((o25_3 l m (m33 d b g i l m).1 (m33 d b g i l m).2 (m36 d b g i l m (b.ss j.toNat 0)).1 (m36 d b g i l m (b.ss j.toNat 0)).2.1 d b g i (b.ss j.toNat 0) (b.ii j.toNat 1) (b.ii j.toNat 2) ((o25_0 l m j z d b g i (b.ss j.toNat 0) (b.ii j.toNat 1) (b.ii j.toNat 2) 0 0 noDat).getD ax).1 0 ((o25_0 l m j z d b g i (b.ss j.toNat 0) (b.ii j.toNat 1) (b.ii j.toNat 2) 0 0 noDat).getD ax).2.1 ((o25_0 l m j z d b g i (b.ss j.toNat 0) (b.ii j.toNat 1) (b.ii j.toNat 2) 0 0 noDat).getD ax).2.2).getD ax).2.1,((o25_3 l m (m33 d b g i l m).1 (m33 d b g i l m).2 (m36 d b g i l m (b.ss j.toNat 0)).1 (m36 d b g i l m (b.ss j.toNat 0)).2.1 d b g i (b.ss j.toNat 0) (b.ii j.toNat 1) (b.ii j.toNat 2) ((o25_0 l m j z d b g i (b.ss j.toNat 0) (b.ii j.toNat 1) (b.ii j.toNat 2) 0 0 noDat).getD ax).1 0 ((o25_0 l m j z d b g i (b.ss j.toNat 0) (b.ii j.toNat 1) (b.ii j.toNat 2) 0 0 noDat).getD ax).2.1 ((o25_0 l m j z d b g i (b.ss j.toNat 0) (b.ii j.toNat 1) (b.ii j.toNat 2) 0 0 noDat).getD ax).2.2).getD ax).2.2)) (cond (bif (aq ((b.ii j.toNat 1)=3)) then (m46 l m (b.ss j.toNat 0)).2 else az) ((((o25_0 l m j z d b g i (b.ss j.toNat 0) (b.ii j.toNat 1) (b.ii j.toNat 2) 0 0 noDat).getD ax).1+1),(((o25_0 l m j z d b g i (b.ss j.toNat 0) (b.ii j.toNat 1) (b.ii j.toNat 2) 0 0 noDat).getD ax).1+1),(((o25_0 l m j z d b g i (b.ss j.toNat 0) (b.ii j.toNat 1) (b.ii j.toNat 2) 0 0 noDat).getD ax).2.2.app ((o25_0 l m j z d b g i (b.ss j.toNat 0) (b.ii j.toNat 1) (b.ii j.toNat 2) 0 0 noDat).getD ax).1 (datS [V Z 3,SV.str ({ data:=#[] }:ByteArray),SV.str (b.ss j.toNat 0),V Z (m46 l m (b.ss j.toNat 0)).1] 4))) (((o25_0 l m j z d b g i (b.ss j.toNat 0) (b.ii j.toNat 1) (b.ii j.toNat 2) 0 0 noDat).getD ax).1,((o25_0 l m j z d b g i (b.ss j.toNat 0) (b.ii j.toNat 1) (b.ii j.toNat 2) 0 0 noDat).getD ax).2.1,((o25_0 l m j z d b g i (b.ss j.toNat 0) (b.ii j.toNat 1) (b.ii j.toNat 2) 0 0 noDat).getD ax).2.2)))
def n25(d:Nat)(b:Dat)(g:Nat)(i:Dat)(l:Nat)(m:Dat)(j z:Int):Bool :=
 ((aq (0<=j/\j<↑d))&&(((o25_0 l m j z d b g i (b.ss j.toNat 0) (b.ii j.toNat 1) (b.ii j.toNat 2) 0 0 noDat).isSome)&&(cond (aq ((b.ii j.toNat 1)=1)) ((n33 d b g i l m)&&((n36 d b g i l m (b.ss j.toNat 0))&&(((o25_3 l m (m33 d b g i l m).1 (m33 d b g i l m).2 (m36 d b g i l m (b.ss j.toNat 0)).1 (m36 d b g i l m (b.ss j.toNat 0)).2.1 d b g i (b.ss j.toNat 0) (b.ii j.toNat 1) (b.ii j.toNat 2) ((o25_0 l m j z d b g i (b.ss j.toNat 0) (b.ii j.toNat 1) (b.ii j.toNat 2) 0 0 noDat).getD ax).1 0 ((o25_0 l m j z d b g i (b.ss j.toNat 0) (b.ii j.toNat 1) (b.ii j.toNat 2) 0 0 noDat).getD ax).2.1 ((o25_0 l m j z d b g i (b.ss j.toNat 0) (b.ii j.toNat 1) (b.ii j.toNat 2) 0 0 noDat).getD ax).2.2).isSome)&&((n46 l m (b.ss j.toNat 0))&&(cond (bif (aq ((b.ii j.toNat 1)=3)) then (m46 l m (b.ss j.toNat 0)).2 else az) ((aq (((o25_3 l m (m33 d b g i l m).1 (m33 d b g i l m).2 (m36 d b g i l m (b.ss j.toNat 0)).1 (m36 d b g i l m (b.ss j.toNat 0)).2.1 d b g i (b.ss j.toNat 0) (b.ii j.toNat 1) (b.ii j.toNat 2) ((o25_0 l m j z d b g i (b.ss j.toNat 0) (b.ii j.toNat 1) (b.ii j.toNat 2) 0 0 noDat).getD ax).1 0 ((o25_0 l m j z d b g i (b.ss j.toNat 0) (b.ii j.toNat 1) (b.ii j.toNat 2) 0 0 noDat).getD ax).2.1 ((o25_0 l m j z d b g i (b.ss j.toNat 0) (b.ii j.toNat 1) (b.ii j.toNat 2) 0 0 noDat).getD ax).2.2).getD ax).1<=((o25_3 l m (m33 d b g i l m).1 (m33 d b g i l m).2 (m36 d b g i l m (b.ss j.toNat 0)).1 (m36 d b g i l m (b.ss j.toNat 0)).2.1 d b g i (b.ss j.toNat 0) (b.ii j.toNat 1) (b.ii j.toNat 2) ((o25_0 l m j z d b g i (b.ss j.toNat 0) (b.ii j.toNat 1) (b.ii j.toNat 2) 0 0 noDat).getD ax).1 0 ((o25_0 l m j z d b g i (b.ss j.toNat 0) (b.ii j.toNat 1) (b.ii j.toNat 2) 0 0 noDat).getD ax).2.1 ((o25_0 l m j z d b g i (b.ss j.toNat 0) (b.ii j.toNat 1) (b.ii j.toNat 2) 0 0 noDat).getD ax).2.2).getD ax).2.1))&&((aq ((((o25_3 l m (m33 d b g i l m).1 (m33 d b g i l m).2 (m36 d b g i l m (b.ss j.toNat 0)).1 (m36 d b g i l m (b.ss j.toNat 0)).2.1 d b g i (b.ss j.toNat 0) (b.ii j.toNat 1) (b.ii j.toNat 2) ((o25_0 l m j z d b g i (b.ss j.toNat 0) (b.ii j.toNat 1) (b.ii j.toNat 2) 0 0 noDat).getD ax).1 0 ((o25_0 l m j z d b g i (b.ss j.toNat 0) (b.ii j.toNat 1) (b.ii j.toNat 2) 0 0 noDat).getD ax).2.1 ((o25_0 l m j z d b g i (b.ss j.toNat 0) (b.ii j.toNat 1) (b.ii j.toNat 2) 0 0 noDat).getD ax).2.2).getD ax).1+1)<=1073741824))&&aj)) aj))))) ((n46 l m (b.ss j.toNat 0))&&(cond (bif (aq ((b.ii j.toNat 1)=3)) then (m46 l m (b.ss j.toNat 0)).2 else az) ((aq (((o25_0 l m j z d b g i (b.ss j.toNat 0) (b.ii j.toNat 1) (b.ii j.toNat 2) 0 0 noDat).getD ax).1<=((o25_0 l m j z d b g i (b.ss j.toNat 0) (b.ii j.toNat 1) (b.ii j.toNat 2) 0 0 noDat).getD ax).2.1))&&((aq ((((o25_0 l m j z d b g i (b.ss j.toNat 0) (b.ii j.toNat 1) (b.ii j.toNat 2) 0 0 noDat).getD ax).1+1)<=1073741824))&&aj)) aj)))))
def q25(r:Nat × Nat × Dat):SV × List Blk × List Blk:=(.gr 0 4 r.1,[],[.row 49 [W Z,.str,.str,W Z] r.2.1 r.2.2])
def g25:GF:=fun vs bs=>match vs,bs with
 | [.agg [.ro [.str,W Z,W Z] d b,.ro [.str,W Z,W Z,W Z] g i],.ro [W Z,W Z,.str,.str,.str,.bool] l m,V Z j,V Z z],[]=>ak (rs 0 (q25 (m25 d b g i l m j z)) [n25 d b g i l m j z])
 | _,_=>aw
def c25:Ctr:=sealL (genC [.a [.ro [.str,W Z,W Z],.ro [.str,W Z,W Z,W Z]],.ro [W Z,W Z,.str,.str,.str,.bool],.k,.k] g25)
theorem k25:CtrOk Try.prog c25 25:=seal_l <| cx (tc k33 (tc k36 (tc k46 (tc k69 (tc k70 tn))))) mix_ok 8 (fn:=Try.f25) (c:=(Try.f25.body.getD .skip)) (grs:=[]) (rh:=.k) Try.func25 rfl (by kernel_rfl) (lam_of rfl (lc z25_0 (lc z25_3 ln))) fun vs bs q h hn=>by
 unfold g25 at h
 split at h <;> cases h
 rename_i d b g i l m j z
 have hn:=n1 hn
 exact ⟨_,rfl,ca (fun R => 
 let b0:=((o25_0 l m j z d b g i (b.ss j.toNat 0) (b.ii j.toNat 1) (b.ii j.toNat 2) 0 0 noDat).getD ax)
 let a0:=(o25_3 l m (m33 d b g i l m).1 (m33 d b g i l m).2 (m36 d b g i l m (b.ss j.toNat 0)).1 (m36 d b g i l m (b.ss j.toNat 0)).2.1 d b g i (b.ss j.toNat 0) (b.ii j.toNat 1) (b.ii j.toNat 2) b0.1 0 b0.2.1 b0.2.2)
 let c0:=(datS [V Z 3,SV.str ({ data:=#[] }:ByteArray),SV.str (b.ss j.toNat 0),V Z (m46 l m (b.ss j.toNat 0)).1] 4)
 let d0:=(bif (aq ((b.ii j.toNat 1)=3)) then (m46 l m (b.ss j.toNat 0)).2 else az)
 (cnd (aq (0<=j/\j<↑d))
 (cnd ((o25_0 l m j z d b g i (b.ss j.toNat 0) (b.ii j.toNat 1) (b.ii j.toNat 2) 0 0 noDat).isSome)
 (cnd (aq ((b.ii j.toNat 1)=1))
 (cnd (n33 d b g i l m)
 (cnd (n36 d b g i l m (b.ss j.toNat 0))
 (cnd (a0.isSome)
 (cnd (n46 l m (b.ss j.toNat 0))
 (cnd d0
 (cnd (aq ((a0.getD ax).1<=(a0.getD ax).2.1))
 (cnd (aq (((a0.getD ax).1+1)<=1073741824))
 (R (.gr 0 4 ((a0.getD ax).1+1)) [] [.row 49 [W Z,.str,.str,W Z] ((a0.getD ax).1+1) ((a0.getD ax).2.2.app (a0.getD ax).1 c0)])
      False)
     False)
 (R (.gr 0 4 (a0.getD ax).1) [] [.row 49 [W Z,.str,.str,W Z] (a0.getD ax).2.1 (a0.getD ax).2.2]))
    False)
    False)
   False)
   False)
 (cnd (n46 l m (b.ss j.toNat 0))
 (cnd d0
 (cnd (aq (b0.1<=b0.2.1))
 (cnd (aq ((b0.1+1)<=1073741824))
 (R (.gr 0 4 (b0.1+1)) [] [.row 49 [W Z,.str,.str,W Z] (b0.1+1) (b0.2.2.app b0.1 c0)])
    False)
    False)
 (R (.gr 0 4 b0.1) [] [.row 49 [W Z,.str,.str,W Z] b0.2.1 b0.2.2]))
   False))
  False)
 False)) (fun R=>by kernel_rfl) (cn (al hn) (cn (al (ar hn)) (co (fun h0=>cn (al (ct h0 (ar (ar hn)))) (cn (al (ar (ct h0 (ar (ar hn))))) (cn (al (ar (ar (ct h0 (ar (ar hn)))))) (cn (al (ar (ar (ar (ct h0 (ar (ar hn))))))) (co (fun h1=>cn (al (ct h1 (ar (ar (ar (ar (ct h0 (ar (ar hn))))))))) (cn (al (ar (ct h1 (ar (ar (ar (ar (ct h0 (ar (ar hn)))))))))) (lf (cT h0 (cT h1 rfl)) rfl))) (fun h1=>lf (cT h0 (cF h1 rfl)) rfl)))))) (fun h0=>cn (al (cf h0 (ar (ar hn)))) (co (fun h1=>cn (al (ct h1 (ar (cf h0 (ar (ar hn)))))) (cn (al (ar (ct h1 (ar (cf h0 (ar (ar hn))))))) (lf (cF h0 (cT h1 rfl)) rfl))) (fun h1=>lf (cF h0 (cF h1 rfl)) rfl))))))⟩
/-! ### shotline/shotlineref07.possible -/
def m68(d:Nat)(b:Dat)(e:Nat)(g:Dat)(l:Nat)(o:Dat)(j i:Int)(n p m:ByteArray)(s:Bool):Int :=
 (cond (bif (aq ((0:Int)<(l:Int))) then (aq (i<(o.ii ((Z.wrap ((l:Int) - 1)).toNat) 1))) else az) 9 (cond (bif (aq (i<(b.ii ((m23 d b e g n).toNat) 2))) then aj else (bif (aq (j=2)) then (aq (i<(b.ii ((m23 d b e g m).toNat) 2))) else az)) 19 (cond (bif (bif (aq (j=2)) then (aq ((0:Int)<(↑((m25 d b e g l o (m23 d b e g m) i).1):Int))) else az) then aj else (bif (bif (aq (j=1)) then aj else (aq (j=2))) then (aq ((0:Int)<(↑((m25 d b e g l o (m23 d b e g n) i).1):Int))) else az)) 24 0)))
def n68(d:Nat)(b:Dat)(e:Nat)(g:Dat)(l:Nat)(o:Dat)(j i:Int)(n p m:ByteArray)(s:Bool):Bool :=
 ((bif (cond (aq ((0:Int)<(l:Int))) az aj) then aj else (aq (0<=Z.wrap ((l:Int) - 1)/\Z.wrap ((l:Int) - 1)<(l:Int))))&&(cond (bif (aq ((0:Int)<(l:Int))) then (aq (i<(o.ii ((Z.wrap ((l:Int) - 1)).toNat) 1))) else az) aj ((n23 d b e g n)&&((n23 d b e g m)&&((aq (0<=m23 d b e g n/\m23 d b e g n<(d:Int)))&&((bif (cond (bif (cond (aq (i<(b.ii ((m23 d b e g n).toNat) 2))) az aj) then (aq (j=2)) else az) az aj) then aj else (aq (0<=m23 d b e g m/\m23 d b e g m<(d:Int))))&&(cond (bif (aq (i<(b.ii ((m23 d b e g n).toNat) 2))) then aj else (bif (aq (j=2)) then (aq (i<(b.ii ((m23 d b e g m).toNat) 2))) else az)) aj ((bif (cond (aq (j=2)) az aj) then aj else (n25 d b e g l o (m23 d b e g m) i))&&((bif (cond (aq (j=2)) az aj) then aj else (aq ((m25 d b e g l o (m23 d b e g m) i).1<=(m25 d b e g l o (m23 d b e g m) i).2.1)))&&((bif (cond (bif (cond (bif (aq (j=2)) then (aq ((0:Int)<(↑((m25 d b e g l o (m23 d b e g m) i).1):Int))) else az) az aj) then (bif (aq (j=1)) then aj else (aq (j=2))) else az) az aj) then aj else (n25 d b e g l o (m23 d b e g n) i))&&((bif (cond (bif (cond (bif (aq (j=2)) then (aq ((0:Int)<(↑((m25 d b e g l o (m23 d b e g m) i).1):Int))) else az) az aj) then (bif (aq (j=1)) then aj else (aq (j=2))) else az) az aj) then aj else (aq ((m25 d b e g l o (m23 d b e g n) i).1<=(m25 d b e g l o (m23 d b e g n) i).2.1)))&&aj)))))))))))
def q68(r:Int):SV × List Blk × List Blk:=(V Z r,[],[])
def g68:GF:=fun vs bs=>match vs,bs with
 | [.agg [.ro [.str,W Z,W Z] d b,.ro [.str,W Z,W Z,W Z] e g],.ro [W Z,W Z,.str,.str,.str,.bool] l o,.agg [V Z j,V Z i,.str n,.str p,.str m,.bool s]],[]=>ak (rs 0 (q68 (m68 d b e g l o j i n p m s)) [n68 d b e g l o j i n p m s])
 | _,_=>aw
def c68:Ctr:=genC [.a [.ro [.str,W Z,W Z],.ro [.str,W Z,W Z,W Z]],.ro [W Z,W Z,.str,.str,.str,.bool],.k] g68
theorem k68:CtrOk Try.prog c68 68:=cx (tc k23 (tc k25 tn)) mix_ok 8 (fn:=Try.f68) (c:=(Try.f68.body.getD .skip)) (grs:=[]) (rh:=.k) Try.func68 rfl (by kernel_rfl) noLam fun vs bs q h hn=>by
 unfold g68 at h
 split at h <;> cases h
 rename_i d b e g l o j i n p m s
 have hn:=n1 hn
 exact ⟨_,rfl,ca (fun R => 
 let b0:=(m25 d b e g l o (m23 d b e g m) i)
 let a0:=(cond (bif (cond (bif (aq (j=2)) then (aq ((0:Int)<(↑(b0.1):Int))) else az) az aj) then (bif (aq (j=1)) then aj else (aq (j=2))) else az) az aj)
 let c0:=(m25 d b e g l o (m23 d b e g n) i)
 (cnd (bif (cond (aq ((0:Int)<(l:Int))) az aj) then aj else (aq (0<=Z.wrap ((l:Int) - 1)/\Z.wrap ((l:Int) - 1)<(l:Int))))
 (cnd (bif (aq ((0:Int)<(l:Int))) then (aq (i<(o.ii ((Z.wrap ((l:Int) - 1)).toNat) 1))) else az)
 (R (V Z 9) [] [])
 (cnd (n23 d b e g n)
 (cnd (n23 d b e g m)
 (cnd (aq (0<=m23 d b e g n/\m23 d b e g n<(d:Int)))
 (cnd (bif (cond (bif (cond (aq (i<(b.ii ((m23 d b e g n).toNat) 2))) az aj) then (aq (j=2)) else az) az aj) then aj else (aq (0<=m23 d b e g m/\m23 d b e g m<(d:Int))))
 (cnd (bif (aq (i<(b.ii ((m23 d b e g n).toNat) 2))) then aj else (bif (aq (j=2)) then (aq (i<(b.ii ((m23 d b e g m).toNat) 2))) else az))
 (R (V Z 19) [] [])
 (cnd (bif (cond (aq (j=2)) az aj) then aj else (n25 d b e g l o (m23 d b e g m) i))
 (cnd (bif (cond (aq (j=2)) az aj) then aj else (aq (b0.1<=b0.2.1)))
 (cnd (bif a0 then aj else (n25 d b e g l o (m23 d b e g n) i))
 (cnd (bif a0 then aj else (aq (c0.1<=c0.2.1)))
 (cnd (bif (bif (aq (j=2)) then (aq ((0:Int)<(↑(b0.1):Int))) else az) then aj else (bif (bif (aq (j=1)) then aj else (aq (j=2))) then (aq ((0:Int)<(↑(c0.1):Int))) else az))
 (R (V Z 24) [] [])
 (R (V Z 0) [] []))
      False)
      False)
     False)
     False))
    False)
   False)
   False)
  False))
 False)) (fun R=>by kernel_rfl) (cn (al hn) (co (fun h0=>lf (cT h0 rfl) rfl) (fun h0=>cn (al (cf h0 (ar hn))) (cn (al (ar (cf h0 (ar hn)))) (cn (al (ar (ar (cf h0 (ar hn))))) (cn (al (ar (ar (ar (cf h0 (ar hn)))))) (co (fun h1=>lf (cF h0 (cT h1 rfl)) rfl) (fun h1=>cn (al (cf h1 (ar (ar (ar (ar (cf h0 (ar hn)))))))) (cn (al (ar (cf h1 (ar (ar (ar (ar (cf h0 (ar hn))))))))) (cn (al (ar (ar (cf h1 (ar (ar (ar (ar (cf h0 (ar hn)))))))))) (cn (al (ar (ar (ar (cf h1 (ar (ar (ar (ar (cf h0 (ar hn))))))))))) (co (fun h2=>lf (cF h0 (cF h1 (cT h2 rfl))) rfl) (fun h2=>lf (cF h0 (cF h1 (cF h2 rfl))) rfl)))))))))))))⟩
/-! ### shotline/shotlineref07.CheckEvents -/
def l22_0(m:Nat)(b:Dat)(g:Nat)(j:Dat)(i:Nat)(l:Dat):Nat->Int->Option (Bool × (Int × Int) × (Unit))
 | 0,_=>aw
 | f+1,d=>(cond (aq (d<(m:Int))) (cond (aq (0<=d/\d<↑m)) (cond (n67 g j i l (b.ii d.toNat 0) (b.ii d.toNat 1) (b.ss d.toNat 2) (b.ss d.toNat 3) (b.ss d.toNat 4) (b.bb d.toNat 5)) (cond (aq ((m67 g j i l (b.ii d.toNat 0) (b.ii d.toNat 1) (b.ss d.toNat 2) (b.ss d.toNat 3) (b.ss d.toNat 4) (b.bb d.toNat 5))=0)) (cond (aq ((0:Int)<=(0:Int)/\(0:Int)<=d/\d<=(m:Int))) (cond (aq (0<=d/\d<↑m)) (cond (n68 g j i l ((d - 0).toNat) b (b.ii d.toNat 0) (b.ii d.toNat 1) (b.ss d.toNat 2) (b.ss d.toNat 3) (b.ss d.toNat 4) (b.bb d.toNat 5)) (cond (cond (aq ((m68 g j i l ((d - 0).toNat) b (b.ii d.toNat 0) (b.ii d.toNat 1) (b.ss d.toNat 2) (b.ss d.toNat 3) (b.ss d.toNat 4) (b.bb d.toNat 5))=0)) az aj) (ak (aj,(d,(m68 g j i l ((d - 0).toNat) b (b.ii d.toNat 0) (b.ii d.toNat 1) (b.ss d.toNat 2) (b.ss d.toNat 3) (b.ss d.toNat 4) (b.bb d.toNat 5))),ax)) (l22_0 m b g j i l f (Z.wrap (d+1)))) aw) aw) aw) (cond (cond (aq ((m67 g j i l (b.ii d.toNat 0) (b.ii d.toNat 1) (b.ss d.toNat 2) (b.ss d.toNat 3) (b.ss d.toNat 4) (b.bb d.toNat 5))=0)) az aj) (ak (aj,(d,(m67 g j i l (b.ii d.toNat 0) (b.ii d.toNat 1) (b.ss d.toNat 2) (b.ss d.toNat 3) (b.ss d.toNat 4) (b.bb d.toNat 5))),ax)) (l22_0 m b g j i l f (Z.wrap (d+1))))) aw) aw) (ak (az,ax,())))
abbrev o22_0(m:Nat)(b:Dat)(g:Nat)(j:Dat)(i:Nat)(l:Dat)(d:Int):Option (Bool × (Int × Int) × (Unit)):=l22_0 m b g j i l (m+d.toNat+g+i+8) d
def e22_0(m:Nat)(b:Dat)(g:Nat)(j:Dat)(i:Nat)(l:Dat)(r:Bool × (Int × Int) × (Unit))(K:XR):Prop:=cnd r.1 (K (XE.ret) [V Z r.2.1.1,V Z r.2.1.2] [.cells 25 [.ro [.str,W Z,W Z] g j,.ro [.str,W Z,W Z,W Z] i l]]) (K (XE.exit 0) [.any,.any] [.cells 25 [.ro [.str,W Z,W Z] g j,.ro [.str,W Z,W Z,W Z] i l]])
def g22_0:LSum:=fun s k=>match czv 0 44 [1,2,7] 1 [] s with
 | ak ([.ro [W Z,W Z,.str,.str,.str,.bool] m b,.ptr 0 0,V Z d],[.cells 25 [.ro [.str,W Z,W Z] g j,.ro [.str,W Z,W Z,W Z] i l]])=>needs [(o22_0 m b g j i l d).isSome] (e22_0 m b g j i l ((o22_0 m b g j i l d).getD ax) fun e vs bs=>inBlk 0 k e (mkSt 0 44 [4,5] vs 1 bs))
 | _=>False
theorem z22_0:LOk Try.prog g22_0 (.block 0 (bodyAt (Try.f22.body.getD .skip) 0)):=by
 refine lb (ι:=Nat × Dat × Int × Nat × Dat × Nat × Dat) (fuel:=8) (na:=0) (nt:=44) (nx:=1) (Lh:=[1,2,7]) (Le:=[4,5]) (gl:=[]) (tc k66 (tc k67 (tc k68 tn))) mix_ok noLam rfl (fun f (m,b,d,g,j,i,l) K=>GG ax (e22_0 m b g j i l) K (l22_0 m b g j i l f d)) (fun (m,b,d,g,j,i,l)=>[.ro [W Z,W Z,.str,.str,.str,.bool] m b,.ptr 0 0,V Z d]) (fun (m,b,d,g,j,i,l)=>[.cells 25 [.ro [.str,W Z,W Z] g j,.ro [.str,W Z,W Z,W Z] i l]]) (fun (_,_,_,_,_,_,_) K=>gg_none) ?_ ?_
 ·rintro f ⟨m,b,d,g,j,i,l⟩ K hG
  refine ro (fun R => 
 let a0:=(m67 g j i l (b.ii d.toNat 0) (b.ii d.toNat 1) (b.ss d.toNat 2) (b.ss d.toNat 3) (b.ss d.toNat 4) (b.bb d.toNat 5))
 let b0:=(m68 g j i l ((d - 0).toNat) b (b.ii d.toNat 0) (b.ii d.toNat 1) (b.ss d.toNat 2) (b.ss d.toNat 3) (b.ss d.toNat 4) (b.bb d.toNat 5))
 (cnd (aq (d<(m:Int)))
 (cnd (aq (0<=d/\d<↑m))
 (cnd (n67 g j i l (b.ii d.toNat 0) (b.ii d.toNat 1) (b.ss d.toNat 2) (b.ss d.toNat 3) (b.ss d.toNat 4) (b.bb d.toNat 5))
 (cnd (aq (a0=0))
 (cnd (aq ((0:Int)<=(0:Int)/\(0:Int)<=d/\d<=(m:Int)))
 (cnd (aq (0<=d/\d<↑m))
 (cnd (n68 g j i l ((d - 0).toNat) b (b.ii d.toNat 0) (b.ii d.toNat 1) (b.ss d.toNat 2) (b.ss d.toNat 3) (b.ss d.toNat 4) (b.bb d.toNat 5))
 (cnd (cond (aq (b0=0)) az aj)
 (R (XE.ret) [V Z d,V Z b0] [.cells 25 [.ro [.str,W Z,W Z] g j,.ro [.str,W Z,W Z,W Z] i l]])
 (R (XE.normal) [.ro [W Z,W Z,.str,.str,.str,.bool] m b,.ptr 0 0,V Z (Z.wrap (d+1))] [.cells 25 [.ro [.str,W Z,W Z] g j,.ro [.str,W Z,W Z,W Z] i l]]))
    False)
    False)
   False)
 (cnd (cond (aq (a0=0)) az aj)
 (R (XE.ret) [V Z d,V Z a0] [.cells 25 [.ro [.str,W Z,W Z] g j,.ro [.str,W Z,W Z,W Z] i l]])
 (R (XE.normal) [.ro [W Z,W Z,.str,.str,.str,.bool] m b,.ptr 0 0,V Z (Z.wrap (d+1))] [.cells 25 [.ro [.str,W Z,W Z] g j,.ro [.str,W Z,W Z,W Z] i l]])))
  False)
  False)
 (R (XE.exit 0) [.any,.any] [.cells 25 [.ro [.str,W Z,W Z] g j,.ro [.str,W Z,W Z,W Z] i l]]))) (fun R=>by kernel_rfl) ?_
  exact ch hG (fun h0=>cg h0 fun h1=>cg h1 fun h2=>ch h2 (fun h3=>cg h3 fun h4=>cg h4 fun h5=>cg h5 fun h6=>ch h6 (fun h7=>h7.2) (fun h7=>⟨(_,_,_,_,_,_,_),rfl,rfl,h7⟩)) (fun h3=>ch h3 (fun h4=>h4.2) (fun h4=>⟨(_,_,_,_,_,_,_),rfl,rfl,h4⟩))) (fun h0=>h0.2)
 ·intro s k h
  unfold g22_0 at h
  split at h <;> try exact h.elim
  rename_i e1
  rw [needs_iff] at h
  exact ⟨_,e1,_,(_,_,_,_,_,_,_),rfl,rfl,h.1 _ (List.mem_singleton.2 rfl),h.2⟩
def m22(n:Nat)(o:Dat)(p:Nat)(t:Dat)(u:Nat)(v:Dat):Int × Int :=
 (cond (cond (aq ((m66 n o p t)=0)) az aj) (0,(m66 n o p t)) (cond (aq ((200:Int)<(u:Int))) (0,8) (cond ((o22_0 u v n o p t 0).getD ax).1 (((o22_0 u v n o p t 0).getD ax).2.1.1,((o22_0 u v n o p t 0).getD ax).2.1.2) (0,0))))
def n22(n:Nat)(o:Dat)(p:Nat)(t:Dat)(u:Nat)(v:Dat):Bool :=
 ((n66 n o p t)&&(cond (cond (aq ((m66 n o p t)=0)) az aj) aj (cond (aq ((200:Int)<(u:Int))) aj (((o22_0 u v n o p t 0).isSome)&&aj))))
def q22(r:Int × Int):SV × List Blk × List Blk:=(.tup [V Z r.1,V Z r.2],[],[])
def g22:GF:=fun vs bs=>match vs,bs with
 | [.agg [.ro [.str,W Z,W Z] n o,.ro [.str,W Z,W Z,W Z] p t],.ro [W Z,W Z,.str,.str,.str,.bool] u v],[]=>ak (rs 0 (q22 (m22 n o p t u v)) [n22 n o p t u v])
 | _,_=>aw
def c22:Ctr:=genC [.a [.ro [.str,W Z,W Z],.ro [.str,W Z,W Z,W Z]],.ro [W Z,W Z,.str,.str,.str,.bool]] g22
theorem k22:CtrOk Try.prog c22 22:=cx (tc k66 (tc k67 (tc k68 tn))) mix_ok 8 (fn:=Try.f22) (c:=(Try.f22.body.getD .skip)) (grs:=[]) (rh:=.k) Try.func22 rfl (by kernel_rfl) (lam_of rfl (lc z22_0 ln)) fun vs bs q h hn=>by
 unfold g22 at h
 split at h <;> cases h
 rename_i n o p t u v
 have hn:=n1 hn
 exact ⟨_,rfl,ca (fun R => 
 let a0:=((o22_0 u v n o p t 0).getD ax)
 (cnd (n66 n o p t)
 (cnd (cond (aq ((m66 n o p t)=0)) az aj)
 (R (.tup [V Z 0,V Z (m66 n o p t)]) [] [])
 (cnd (aq ((200:Int)<(u:Int)))
 (R (.tup [V Z 0,V Z 8]) [] [])
 (cnd ((o22_0 u v n o p t 0).isSome)
 (cnd a0.1
 (R (.tup [V Z a0.2.1.1,V Z a0.2.1.2]) [] [])
 (R (.tup [V Z 0,V Z 0]) [] []))
   False)))
 False)) (fun R=>by kernel_rfl) (cn (al hn) (co (fun h0=>lf (cT h0 rfl) rfl) (fun h0=>co (fun h1=>lf (cF h0 (cT h1 rfl)) rfl) (fun h1=>cn (al (cf h1 (cf h0 (ar hn)))) (co (fun h2=>lf (cF h0 (cF h1 (cT h2 rfl))) rfl) (fun h2=>lf (cF h0 (cF h1 (cF h2 rfl))) rfl))))))⟩
/-! ### math/bits.Len32 -/
def m126(a:Int):Int :=
 (cond (aq (65536<=a)) (cond (aq (256<=(a.fdiv 65536))) (Z.wrap (24+(Z.wrap (byteAt (bt19670_1) ((IntKind.u8.wrap ((a.fdiv 65536).fdiv 256)).toNat))))) (Z.wrap (16+(Z.wrap (byteAt (bt19670_1) ((IntKind.u8.wrap (a.fdiv 65536)).toNat)))))) (cond (aq (256<=a)) (Z.wrap (8+(Z.wrap (byteAt (bt19670_1) ((IntKind.u8.wrap (a.fdiv 256)).toNat))))) (Z.wrap (0+(Z.wrap (byteAt (bt19670_1) ((IntKind.u8.wrap a).toNat)))))))
def n126(a:Int):Bool :=
 (cond (aq (65536<=a)) (cond (aq (256<=(a.fdiv 65536))) ((aq (0<=IntKind.u8.wrap ((a.fdiv (2 ^ min (Int.toNat 16) IntKind.u32.bits)).fdiv (2 ^ min (Int.toNat 8) IntKind.u32.bits))/\IntKind.u8.wrap ((a.fdiv (2 ^ min (Int.toNat 16) IntKind.u32.bits)).fdiv (2 ^ min (Int.toNat 8) IntKind.u32.bits))<(↑bt14413_0.size:Int)))&&aj) ((aq (0<=IntKind.u8.wrap (a.fdiv (2 ^ min (Int.toNat 16) IntKind.u32.bits))/\IntKind.u8.wrap (a.fdiv (2 ^ min (Int.toNat 16) IntKind.u32.bits))<(↑bt14413_0.size:Int)))&&aj)) (cond (aq (256<=a)) ((aq (0<=IntKind.u8.wrap (a.fdiv (2 ^ min (Int.toNat 8) IntKind.u32.bits))/\IntKind.u8.wrap (a.fdiv (2 ^ min (Int.toNat 8) IntKind.u32.bits))<(↑bt14413_0.size:Int)))&&aj) ((aq ((0:Int)<=IntKind.u8.wrap a/\IntKind.u8.wrap a<(↑bt48795_2.size:Int)))&&aj)))
def q126(r:Int):SV × List Blk × List Blk:=(V Z r,[],[])
def g126:GF:=fun vs bs=>match vs,bs with
 | [.int .u32 a],[]=>ak (rs 0 (q126 (m126 a)) [n126 a])
 | _,_=>aw
def c126:Ctr:=genC [.k] g126
theorem k126:CtrOk Try.prog c126 126:=cx tn mix_ok 8 (fn:=Try.f126) (c:=(Try.f126.body.getD .skip)) (grs:=[]) (rh:=.k) Try.func126 rfl (by kernel_rfl) noLam fun vs bs q h hn=>by
 unfold g126 at h
 split at h <;> cases h
 rename_i a
 have hn:=n1 hn
 exact ⟨_,rfl,ca (fun R => 
 let a0:=(a.fdiv (2 ^ min (Int.toNat 16) IntKind.u32.bits))
 let b0:=(2 ^ min (Int.toNat 8) IntKind.u32.bits)
 (cnd (aq (65536<=a))
 (cnd (aq (256<=(a.fdiv 65536)))
 (cnd (aq (0<=IntKind.u8.wrap (a0.fdiv b0)/\IntKind.u8.wrap (a0.fdiv b0)<(↑bt14413_0.size:Int)))
 (R (V Z (Z.wrap (24+(Z.wrap (byteAt (bt19670_1) ((IntKind.u8.wrap ((a.fdiv 65536).fdiv 256)).toNat)))))) [] [])
  False)
 (cnd (aq (0<=IntKind.u8.wrap a0/\IntKind.u8.wrap a0<(↑bt14413_0.size:Int)))
 (R (V Z (Z.wrap (16+(Z.wrap (byteAt (bt19670_1) ((IntKind.u8.wrap (a.fdiv 65536)).toNat)))))) [] [])
  False))
 (cnd (aq (256<=a))
 (cnd (aq (0<=IntKind.u8.wrap (a.fdiv b0)/\IntKind.u8.wrap (a.fdiv b0)<(↑bt14413_0.size:Int)))
 (R (V Z (Z.wrap (8+(Z.wrap (byteAt (bt19670_1) ((IntKind.u8.wrap (a.fdiv 256)).toNat)))))) [] [])
  False)
 (cnd (aq ((0:Int)<=IntKind.u8.wrap a/\IntKind.u8.wrap a<(↑bt48795_2.size:Int)))
 (R (V Z (Z.wrap (0+(Z.wrap (byteAt (bt19670_1) ((IntKind.u8.wrap a).toNat)))))) [] [])
  False)))) (fun R=>by kernel_rfl) (co (fun h0=>co (fun h1=>cn (al (ct h1 (ct h0 hn))) (lf (cT h0 (cT h1 rfl)) rfl)) (fun h1=>cn (al (cf h1 (ct h0 hn))) (lf (cT h0 (cF h1 rfl)) rfl))) (fun h0=>co (fun h1=>cn (al (ct h1 (cf h0 hn))) (lf (cF h0 (cT h1 rfl)) rfl)) (fun h1=>cn (al (cf h1 (cf h0 hn))) (lf (cF h0 (cF h1 rfl)) rfl))))⟩
/-! ### math/bits.Len64 -/
def t127_0(a:Int):Int:=(a.fdiv 4294967296).fdiv 65536
def t127_1(a:Int):ByteArray:=bt19670_1
def U127(a z0:Int)(z1:ByteArray)(R:SV->List Blk->List Blk->Prop):Prop :=
 (cnd (aq (4294967296<=a))
 (cnd (aq (65536<=(a.fdiv 4294967296)))
 (cnd (aq (256<=z0))
 (cnd (aq (0<=IntKind.u8.wrap (((a.fdiv (2 ^ min (Int.toNat 32) IntKind.u64.bits)).fdiv (2 ^ min (Int.toNat 16) IntKind.u64.bits)).fdiv (2 ^ min (Int.toNat 8) IntKind.u64.bits))/\IntKind.u8.wrap (((a.fdiv (2 ^ min (Int.toNat 32) IntKind.u64.bits)).fdiv (2 ^ min (Int.toNat 16) IntKind.u64.bits)).fdiv (2 ^ min (Int.toNat 8) IntKind.u64.bits))<(↑bt14413_0.size:Int)))
 (R (V Z (Z.wrap (56+(Z.wrap (byteAt z1 ((IntKind.u8.wrap (z0.fdiv 256)).toNat)))))) [] [])
   False)
 (cnd (aq (0<=IntKind.u8.wrap ((a.fdiv (2 ^ min (Int.toNat 32) IntKind.u64.bits)).fdiv (2 ^ min (Int.toNat 16) IntKind.u64.bits))/\IntKind.u8.wrap ((a.fdiv (2 ^ min (Int.toNat 32) IntKind.u64.bits)).fdiv (2 ^ min (Int.toNat 16) IntKind.u64.bits))<(↑bt14413_0.size:Int)))
 (R (V Z (Z.wrap (48+(Z.wrap (byteAt z1 ((IntKind.u8.wrap z0).toNat)))))) [] [])
   False))
 (cnd (aq (256<=(a.fdiv 4294967296)))
 (cnd (aq (0<=IntKind.u8.wrap ((a.fdiv (2 ^ min (Int.toNat 32) IntKind.u64.bits)).fdiv (2 ^ min (Int.toNat 8) IntKind.u64.bits))/\IntKind.u8.wrap ((a.fdiv (2 ^ min (Int.toNat 32) IntKind.u64.bits)).fdiv (2 ^ min (Int.toNat 8) IntKind.u64.bits))<(↑bt14413_0.size:Int)))
 (R (V Z (Z.wrap (40+(Z.wrap (byteAt z1 ((IntKind.u8.wrap ((a.fdiv 4294967296).fdiv 256)).toNat)))))) [] [])
   False)
 (cnd (aq (0<=IntKind.u8.wrap (a.fdiv (2 ^ min (Int.toNat 32) IntKind.u64.bits))/\IntKind.u8.wrap (a.fdiv (2 ^ min (Int.toNat 32) IntKind.u64.bits))<(↑bt14413_0.size:Int)))
 (R (V Z (Z.wrap (32+(Z.wrap (byteAt z1 ((IntKind.u8.wrap (a.fdiv 4294967296)).toNat)))))) [] [])
   False)))
 (cnd (aq (65536<=a))
 (cnd (aq (256<=(a.fdiv 65536)))
 (cnd (aq (0<=IntKind.u8.wrap ((a.fdiv (2 ^ min (Int.toNat 16) IntKind.u64.bits)).fdiv (2 ^ min (Int.toNat 8) IntKind.u64.bits))/\IntKind.u8.wrap ((a.fdiv (2 ^ min (Int.toNat 16) IntKind.u64.bits)).fdiv (2 ^ min (Int.toNat 8) IntKind.u64.bits))<(↑bt14413_0.size:Int)))
 (R (V Z (Z.wrap (24+(Z.wrap (byteAt z1 ((IntKind.u8.wrap ((a.fdiv 65536).fdiv 256)).toNat)))))) [] [])
   False)
 (cnd (aq (0<=IntKind.u8.wrap (a.fdiv (2 ^ min (Int.toNat 16) IntKind.u64.bits))/\IntKind.u8.wrap (a.fdiv (2 ^ min (Int.toNat 16) IntKind.u64.bits))<(↑bt14413_0.size:Int)))
 (R (V Z (Z.wrap (16+(Z.wrap (byteAt z1 ((IntKind.u8.wrap (a.fdiv 65536)).toNat)))))) [] [])
   False))
 (cnd (aq (256<=a))
 (cnd (aq (0<=IntKind.u8.wrap (a.fdiv (2 ^ min (Int.toNat 8) IntKind.u64.bits))/\IntKind.u8.wrap (a.fdiv (2 ^ min (Int.toNat 8) IntKind.u64.bits))<(↑bt14413_0.size:Int)))
 (R (V Z (Z.wrap (8+(Z.wrap (byteAt z1 ((IntKind.u8.wrap (a.fdiv 256)).toNat)))))) [] [])
   False)
 (cnd (aq ((0:Int)<=IntKind.u8.wrap a/\IntKind.u8.wrap a<(↑bt48795_2.size:Int)))
 (R (V Z (Z.wrap (0+(Z.wrap (byteAt z1 ((IntKind.u8.wrap a).toNat)))))) [] [])
   False))))
def w127(a z0:Int)(z1:ByteArray):Int :=
 (cond (aq (4294967296<=a)) (cond (aq (65536<=(a.fdiv 4294967296))) (cond (aq (256<=z0)) (Z.wrap (56+(Z.wrap (byteAt z1 ((IntKind.u8.wrap (z0.fdiv 256)).toNat))))) (Z.wrap (48+(Z.wrap (byteAt z1 ((IntKind.u8.wrap z0).toNat)))))) (cond (aq (256<=(a.fdiv 4294967296))) (Z.wrap (40+(Z.wrap (byteAt z1 ((IntKind.u8.wrap ((a.fdiv 4294967296).fdiv 256)).toNat))))) (Z.wrap (32+(Z.wrap (byteAt z1 ((IntKind.u8.wrap (a.fdiv 4294967296)).toNat))))))) (cond (aq (65536<=a)) (cond (aq (256<=(a.fdiv 65536))) (Z.wrap (24+(Z.wrap (byteAt z1 ((IntKind.u8.wrap ((a.fdiv 65536).fdiv 256)).toNat))))) (Z.wrap (16+(Z.wrap (byteAt z1 ((IntKind.u8.wrap (a.fdiv 65536)).toNat)))))) (cond (aq (256<=a)) (Z.wrap (8+(Z.wrap (byteAt z1 ((IntKind.u8.wrap (a.fdiv 256)).toNat))))) (Z.wrap (0+(Z.wrap (byteAt z1 ((IntKind.u8.wrap a).toNat))))))))
def v127(a z0:Int)(z1:ByteArray):Bool :=
 (cond (aq (4294967296<=a)) (cond (aq (65536<=(a.fdiv 4294967296))) (cond (aq (256<=z0)) ((aq (0<=IntKind.u8.wrap (((a.fdiv (2 ^ min (Int.toNat 32) IntKind.u64.bits)).fdiv (2 ^ min (Int.toNat 16) IntKind.u64.bits)).fdiv (2 ^ min (Int.toNat 8) IntKind.u64.bits))/\IntKind.u8.wrap (((a.fdiv (2 ^ min (Int.toNat 32) IntKind.u64.bits)).fdiv (2 ^ min (Int.toNat 16) IntKind.u64.bits)).fdiv (2 ^ min (Int.toNat 8) IntKind.u64.bits))<(↑bt14413_0.size:Int)))&&aj) ((aq (0<=IntKind.u8.wrap ((a.fdiv (2 ^ min (Int.toNat 32) IntKind.u64.bits)).fdiv (2 ^ min (Int.toNat 16) IntKind.u64.bits))/\IntKind.u8.wrap ((a.fdiv (2 ^ min (Int.toNat 32) IntKind.u64.bits)).fdiv (2 ^ min (Int.toNat 16) IntKind.u64.bits))<(↑bt14413_0.size:Int)))&&aj)) (cond (aq (256<=(a.fdiv 4294967296))) ((aq (0<=IntKind.u8.wrap ((a.fdiv (2 ^ min (Int.toNat 32) IntKind.u64.bits)).fdiv (2 ^ min (Int.toNat 8) IntKind.u64.bits))/\IntKind.u8.wrap ((a.fdiv (2 ^ min (Int.toNat 32) IntKind.u64.bits)).fdiv (2 ^ min (Int.toNat 8) IntKind.u64.bits))<(↑bt14413_0.size:Int)))&&aj) ((aq (0<=IntKind.u8.wrap (a.fdiv (2 ^ min (Int.toNat 32) IntKind.u64.bits))/\IntKind.u8.wrap (a.fdiv (2 ^ min (Int.toNat 32) IntKind.u64.bits))<(↑bt14413_0.size:Int)))&&aj))) (cond (aq (65536<=a)) (cond (aq (256<=(a.fdiv 65536))) ((aq (0<=IntKind.u8.wrap ((a.fdiv (2 ^ min (Int.toNat 16) IntKind.u64.bits)).fdiv (2 ^ min (Int.toNat 8) IntKind.u64.bits))/\IntKind.u8.wrap ((a.fdiv (2 ^ min (Int.toNat 16) IntKind.u64.bits)).fdiv (2 ^ min (Int.toNat 8) IntKind.u64.bits))<(↑bt14413_0.size:Int)))&&aj) ((aq (0<=IntKind.u8.wrap (a.fdiv (2 ^ min (Int.toNat 16) IntKind.u64.bits))/\IntKind.u8.wrap (a.fdiv (2 ^ min (Int.toNat 16) IntKind.u64.bits))<(↑bt14413_0.size:Int)))&&aj)) (cond (aq (256<=a)) ((aq (0<=IntKind.u8.wrap (a.fdiv (2 ^ min (Int.toNat 8) IntKind.u64.bits))/\IntKind.u8.wrap (a.fdiv (2 ^ min (Int.toNat 8) IntKind.u64.bits))<(↑bt14413_0.size:Int)))&&aj) ((aq ((0:Int)<=IntKind.u8.wrap a/\IntKind.u8.wrap a<(↑bt48795_2.size:Int)))&&aj))))
def m127(a:Int):Int:=w127 a (t127_0 a) (t127_1 a)
def n127(a:Int):Bool:=v127 a (t127_0 a) (t127_1 a)
def q127(r:Int):SV × List Blk × List Blk:=(V Z r,[],[])
def g127:GF:=fun vs bs=>match vs,bs with
 | [.int .u64 a],[]=>ak (rs 0 (q127 (m127 a)) [n127 a])
 | _,_=>aw
def c127:Ctr:=genC [.k] g127
theorem u127(a z0:Int)(z1:ByteArray)(hn:v127 a z0 z1=aj):U127 a z0 z1 (fun v U N=>(v,U,N)=q127 (w127 a z0 z1)) :=
 co (fun h0=>co (fun h1=>co (fun h2=>cn (al (ct h2 (ct h1 (ct h0 hn)))) (lf (cT h0 (cT h1 (cT h2 rfl))) rfl)) (fun h2=>cn (al (cf h2 (ct h1 (ct h0 hn)))) (lf (cT h0 (cT h1 (cF h2 rfl))) rfl))) (fun h1=>co (fun h2=>cn (al (ct h2 (cf h1 (ct h0 hn)))) (lf (cT h0 (cF h1 (cT h2 rfl))) rfl)) (fun h2=>cn (al (cf h2 (cf h1 (ct h0 hn)))) (lf (cT h0 (cF h1 (cF h2 rfl))) rfl)))) (fun h0=>co (fun h1=>co (fun h2=>cn (al (ct h2 (ct h1 (cf h0 hn)))) (lf (cF h0 (cT h1 (cT h2 rfl))) rfl)) (fun h2=>cn (al (cf h2 (ct h1 (cf h0 hn)))) (lf (cF h0 (cT h1 (cF h2 rfl))) rfl))) (fun h1=>co (fun h2=>cn (al (ct h2 (cf h1 (cf h0 hn)))) (lf (cF h0 (cF h1 (cT h2 rfl))) rfl)) (fun h2=>cn (al (cf h2 (cf h1 (cf h0 hn)))) (lf (cF h0 (cF h1 (cF h2 rfl))) rfl))))
theorem k127:CtrOk Try.prog c127 127:=cx tn mix_ok 8 (fn:=Try.f127) (c:=(Try.f127.body.getD .skip)) (grs:=[]) (rh:=.k) Try.func127 rfl (by kernel_rfl) noLam fun vs bs q h hn=>by
 unfold g127 at h
 split at h <;> cases h
 rename_i a
 have hn:=n1 hn
 exact ⟨_,rfl,ca (fun R=>U127 a (t127_0 a) (t127_1 a) R) (fun R=>by kernel_rfl) (u127 a (t127_0 a) (t127_1 a) hn)⟩
/-! ### slices.insertionSortCmpFunc[shotline/kit.batch] -/
def l118c98_2(g:Nat)(i l j:Int)(b:Nat):Nat->Int->Dat->Option (Dat)
 | 0,_,_=>aw
 | f+1,d,a=>(cond (bif (cond (aq (i<d)) az aj) then aj else (aq (0<=d/\d<↑g))) (cond (bif (cond (aq (i<d)) az aj) then aj else (aq (d.toNat<b))) (cond (bif (cond (aq (i<d)) az aj) then aj else (aq (0<=Z.wrap (d - 1)/\Z.wrap (d - 1)<(g:Int)))) (cond (bif (cond (aq (i<d)) az aj) then aj else (aq (((Z.wrap (d - 1)).toNat)<b))) (cond (bif (cond (aq (i<d)) az aj) then aj else (n98 (a.ii d.toNat 0) (a.ii d.toNat 1) (a.ii ((Z.wrap (d - 1)).toNat) 0) (a.ii ((Z.wrap (d - 1)).toNat) 1))) (cond (bif (aq (i<d)) then (aq ((m98 (a.ii d.toNat 0) (a.ii d.toNat 1) (a.ii ((Z.wrap (d - 1)).toNat) 0) (a.ii ((Z.wrap (d - 1)).toNat) 1))<0)) else az) (cond (aq (0<=Z.wrap (d - 1)/\Z.wrap (d - 1)<(g:Int))) (cond (aq (((Z.wrap (d - 1)).toNat)<b)) (cond (aq (0<=d/\d<↑g)) (cond (aq (d.toNat<b)) (cond (aq (0<=d/\d<↑g)) (cond (aq (d.toNat<b)) (cond (aq (0<=Z.wrap (d - 1)/\Z.wrap (d - 1)<(g:Int))) (cond (aq (((Z.wrap (d - 1)).toNat)<b)) (l118c98_2 g i l j b f (Z.wrap (d - 1)) ((a.upd d.toNat 0 [V Z (a.ii ((Z.wrap (d - 1)).toNat) 0),V Z (a.ii ((Z.wrap (d - 1)).toNat) 1)]).upd ((Z.wrap (d - 1)).toNat) 0 [V Z (a.ii d.toNat 0),V Z (a.ii d.toNat 1)])) aw) aw) aw) aw) aw) aw) aw) aw) (ak a)) aw) aw) aw) aw) aw)
abbrev o118c98_2(g:Nat)(i l j:Int)(b:Nat)(d:Int)(a:Dat):Option (Dat):=l118c98_2 g i l j b (g+i.toNat+l.toNat+j.toNat+d.toNat+b+8) d a
def e118c98_2(g:Nat)(i l j:Int)(b:Nat)(r:Dat)(K:XR):Prop:=K (XE.exit 2) [.gr 0 2 g,V Z i,V Z l,.fn 98 [],V Z j] [.row 133 [W Z,W Z] b r]
def g118c98_2:LSum:=fun s k=>match czv 1 53 [0,1,2,3,8,9] 1 [] s with
 | ak ([.gr 0 2 g,V Z i,V Z l,.fn 98 [],V Z j,V Z d],[.row 133 [W Z,W Z] b a])=>needs [(o118c98_2 g i l j b d a).isSome] (e118c98_2 g i l j b ((o118c98_2 g i l j b d a).getD ax) fun e vs bs=>inBlk 2 k e (mkSt 1 53 [0,1,2,3,8] vs 1 bs))
 | _=>False
theorem z118c98_2:LOk Try.prog g118c98_2 (.block 2 (bodyAt (Try.f118.body.getD .skip) 2)):=by
 refine lb (ι:=Nat × Int × Int × Int × Int × Nat × Dat) (fuel:=8) (na:=1) (nt:=53) (nx:=1) (Lh:=[0,1,2,3,8,9]) (Le:=[0,1,2,3,8]) (gl:=[]) (tc k98 tn) mix_ok noLam rfl (fun f (g,i,l,j,d,b,a) K=>GG ax (e118c98_2 g i l j b) K (l118c98_2 g i l j b f d a)) (fun (g,i,l,j,d,b,a)=>[.gr 0 2 g,V Z i,V Z l,.fn 98 [],V Z j,V Z d]) (fun (g,i,l,j,d,b,a)=>[.row 133 [W Z,W Z] b a]) (fun (_,_,_,_,_,_,_) K=>gg_none) ?_ ?_
 ·rintro f ⟨g,i,l,j,d,b,a⟩ K hG
  refine ro (fun R => 
 let a0:=((Z.wrap (d - 1)).toNat)
 let b0:=(cond (aq (i<d)) az aj)
 let c0:=(aq (0<=Z.wrap (d - 1)/\Z.wrap (d - 1)<(g:Int)))
 let d0:=(aq (0<=d/\d<↑g))
 (cnd (bif b0 then aj else d0)
 (cnd (bif b0 then aj else (aq (d.toNat<b)))
 (cnd (bif b0 then aj else c0)
 (cnd (bif b0 then aj else (aq (a0<b)))
 (cnd (bif b0 then aj else (n98 (a.ii d.toNat 0) (a.ii d.toNat 1) (a.ii a0 0) (a.ii a0 1)))
 (cnd (bif (aq (i<d)) then (aq ((m98 (a.ii d.toNat 0) (a.ii d.toNat 1) (a.ii a0 0) (a.ii a0 1))<0)) else az)
 (cnd c0
 (cnd (aq (a0<b))
 (cnd d0
 (cnd (aq (d.toNat<b))
 (cnd d0
 (cnd (aq (d.toNat<b))
 (cnd c0
 (cnd (aq (a0<b))
 (R (XE.normal) [.gr 0 2 g,V Z i,V Z l,.fn 98 [],V Z j,V Z (Z.wrap (d - 1))] [.row 133 [W Z,W Z] b ((a.upd d.toNat 0 [V Z (a.ii a0 0),V Z (a.ii a0 1)]).upd a0 0 [V Z (a.ii d.toNat 0),V Z (a.ii d.toNat 1)])])
        False)
       False)
       False)
      False)
      False)
     False)
     False)
    False)
 (R (XE.exit 2) [.gr 0 2 g,V Z i,V Z l,.fn 98 [],V Z j] [.row 133 [W Z,W Z] b a]))
   False)
   False)
  False)
  False)
 False)) (fun R=>by kernel_rfl) ?_
  exact cg hG fun h0=>cg h0 fun h1=>cg h1 fun h2=>cg h2 fun h3=>cg h3 fun h4=>ch h4 (fun h5=>cg h5 fun h6=>cg h6 fun h7=>cg h7 fun h8=>cg h8 fun h9=>cg h9 fun h10=>cg h10 fun h11=>cg h11 fun h12=>cg h12 fun h13=>⟨(_,_,_,_,_,_,_),rfl,rfl,h13⟩) (fun h5=>h5.2)
 ·intro s k h
  unfold g118c98_2 at h
  split at h <;> try exact h.elim
  rename_i e1
  rw [needs_iff] at h
  exact ⟨_,e1,_,(_,_,_,_,_,_,_),rfl,rfl,h.1 _ (List.mem_singleton.2 rfl),h.2⟩
def l118c98_0(g:Nat)(i l:Int)(b:Nat):Nat->Int->Dat->Option (Dat)
 | 0,_,_=>aw
 | f+1,j,a=>(cond (aq (j<l)) (cond ((o118c98_2 g i l j b j a).isSome) (l118c98_0 g i l b f (Z.wrap (j+1)) ((o118c98_2 g i l j b j a).getD ax)) aw) (ak a))
abbrev o118c98_0(g:Nat)(i l:Int)(b:Nat)(j:Int)(a:Dat):Option (Dat):=l118c98_0 g i l b (g+i.toNat+l.toNat+j.toNat+b+8) j a
def e118c98_0(g:Nat)(i l:Int)(b:Nat)(r:Dat)(K:XR):Prop:=K (XE.exit 0) [] [.row 133 [W Z,W Z] b r]
def g118c98_0:LSum:=fun s k=>match czv 1 53 [0,1,2,3,8] 1 [] s with
 | ak ([.gr 0 2 g,V Z i,V Z l,.fn 98 [],V Z j],[.row 133 [W Z,W Z] b a])=>needs [(o118c98_0 g i l b j a).isSome] (e118c98_0 g i l b ((o118c98_0 g i l b j a).getD ax) fun e vs bs=>inBlk 0 k e (mkSt 1 53 [] vs 1 bs))
 | _=>False
theorem z118c98_0:LOk Try.prog g118c98_0 (.block 0 (bodyAt (Try.f118.body.getD .skip) 0)):=by
 refine lb (ι:=Nat × Int × Int × Int × Nat × Dat) (fuel:=8) (na:=1) (nt:=53) (nx:=1) (Lh:=[0,1,2,3,8]) (Le:=[]) (gl:=[]) (tc k98 tn) mix_ok (lam_of rfl (lc z118c98_2 ln)) rfl (fun f (g,i,l,j,b,a) K=>GG ax (e118c98_0 g i l b) K (l118c98_0 g i l b f j a)) (fun (g,i,l,j,b,a)=>[.gr 0 2 g,V Z i,V Z l,.fn 98 [],V Z j]) (fun (g,i,l,j,b,a)=>[.row 133 [W Z,W Z] b a]) (fun (_,_,_,_,_,_) K=>gg_none) ?_ ?_
 ·rintro f ⟨g,i,l,j,b,a⟩ K hG
  refine ro (fun R=>(cnd (aq (j<l))
 (cnd ((o118c98_2 g i l j b j a).isSome)
 (R (XE.normal) [.gr 0 2 g,V Z i,V Z l,.fn 98 [],V Z (Z.wrap (j+1))] [.row 133 [W Z,W Z] b ((o118c98_2 g i l j b j a).getD ax)])
  False)
 (R (XE.exit 0) [] [.row 133 [W Z,W Z] b a]))) (fun R=>by kernel_rfl) ?_
  exact ch hG (fun h0=>cg h0 fun h1=>⟨(_,_,_,_,_,_),rfl,rfl,h1⟩) (fun h0=>h0.2)
 ·intro s k h
  unfold g118c98_0 at h
  split at h <;> try exact h.elim
  rename_i e1
  rw [needs_iff] at h
  exact ⟨_,e1,_,(_,_,_,_,_,_),rfl,rfl,h.1 _ (List.mem_singleton.2 rfl),h.2⟩
def m118c98(m ma0:Nat)(n:Dat)(o p:Int):Nat × Dat :=
 (ma0,((o118c98_0 m o p ma0 (Z.wrap (o+1)) n).getD ax))
def n118c98(m ma0:Nat)(n:Dat)(o p:Int):Bool :=
 (((o118c98_0 m o p ma0 (Z.wrap (o+1)) n).isSome)&&aj)
def q118c98(r:Nat × Dat):SV × List Blk × List Blk:=(.tup [],[.row 133 [W Z,W Z] r.1 r.2],[])
def g118c98:GF:=fun vs bs=>match vs,bs with
 | [.gr 0 2 m,V Z o,V Z p,.fn 98 []],[.row 133 [W Z,W Z] ma0 n]=>ak (rs 1 (q118c98 (m118c98 m ma0 n o p)) [n118c98 m ma0 n o p])
 | _,_=>aw
def c118c98:Ctr:=genC [.gr 133 [W Z,W Z],.k,.k,.f []] g118c98
theorem k118c98:CtrOk Try.prog c118c98 118:=cx (tc k98 tn) mix_ok 8 (fn:=Try.f118) (c:=(Try.f118.body.getD .skip)) (grs:=[]) (rh:=.k) Try.func118 rfl (by kernel_rfl) (lam_of rfl (lc z118c98_2 (lc z118c98_0 ln))) fun vs bs q h hn=>by
 unfold g118c98 at h
 split at h <;> cases h
 rename_i m o p ma0 n
 have hn:=n1 hn
 exact ⟨_,rfl,ca (fun R=>(cnd ((o118c98_0 m o p ma0 (Z.wrap (o+1)) n).isSome)
 (R (.tup []) [.row 133 [W Z,W Z] ma0 ((o118c98_0 m o p ma0 (Z.wrap (o+1)) n).getD ax)] [])
 False)) (fun R=>by kernel_rfl) (cn (al hn) (lf rfl rfl))⟩
/-! ### shotline/kit.Due$1 -/
def m87(d e:ByteArray)(a:Int)(g i:ByteArray)(b:Int):Int :=
 (m88 a b)
def q87(r:Int):SV × List Blk × List Blk:=(V Z r,[],[])
def g87:GF:=fun vs bs=>match vs,bs with
 | [.agg [.str d,.str e,V Z a],.agg [.str g,.str i,V Z b]],[]=>ak (rs 0 (q87 (m87 d e a g i b)) [])
 | _,_=>aw
def c87:Ctr:=genC [.k,.k] g87
theorem k87:CtrOk Try.prog c87 87:=cx (tc k88 tn) mix_ok 8 (fn:=Try.f87) (c:=(Try.f87.body.getD .skip)) (grs:=[]) (rh:=.k) Try.func87 rfl (by kernel_rfl) noLam fun vs bs q h hn=>by
 unfold g87 at h
 split at h <;> cases h
 rename_i d e a g i b
 exact ⟨_,rfl,ca (fun R=>(R (V Z (m88 a b)) [] [])) (fun R=>by kernel_rfl) (lf rfl rfl)⟩
/-! ### math/bits.Len -/
def m111(a:Int):Int :=
 (m127 a)
def n111(a:Int):Bool :=
 ((n127 a)&&aj)
def q111(r:Int):SV × List Blk × List Blk:=(V Z r,[],[])
def g111:GF:=fun vs bs=>match vs,bs with
 | [.int .u64 a],[]=>ak (rs 0 (q111 (m111 a)) [n111 a])
 | _,_=>aw
def c111:Ctr:=genC [.k] g111
theorem k111:CtrOk Try.prog c111 111:=cx (tc k126 (tc k127 tn)) mix_ok 8 (fn:=Try.f111) (c:=(Try.f111.body.getD .skip)) (grs:=[]) (rh:=.k) Try.func111 rfl (by kernel_rfl) noLam fun vs bs q h hn=>by
 unfold g111 at h
 split at h <;> cases h
 rename_i a
 have hn:=n1 hn
 exact ⟨_,rfl,ca (fun R=>(cnd (n127 a)
 (R (V Z (m127 a)) [] [])
 False)) (fun R=>by kernel_rfl) (cn (al hn) (lf rfl rfl))⟩
/-! ### slices.insertionSortCmpFunc[shotline/api.KitDue] -/
def l115c87_2(g:Nat)(i l j:Int)(b:Nat):Nat->Int->Dat->Option (Dat)
 | 0,_,_=>aw
 | f+1,d,a=>(cond (bif (cond (aq (i<d)) az aj) then aj else (aq (0<=d/\d<↑g))) (cond (bif (cond (aq (i<d)) az aj) then aj else (aq (d.toNat<b))) (cond (bif (cond (aq (i<d)) az aj) then aj else (aq (0<=Z.wrap (d - 1)/\Z.wrap (d - 1)<(g:Int)))) (cond (bif (cond (aq (i<d)) az aj) then aj else (aq (((Z.wrap (d - 1)).toNat)<b))) (cond (bif (aq (i<d)) then (aq ((m87 (a.ss d.toNat 0) (a.ss d.toNat 1) (a.ii d.toNat 2) (a.ss ((Z.wrap (d - 1)).toNat) 0) (a.ss ((Z.wrap (d - 1)).toNat) 1) (a.ii ((Z.wrap (d - 1)).toNat) 2))<0)) else az) (cond (aq (0<=Z.wrap (d - 1)/\Z.wrap (d - 1)<(g:Int))) (cond (aq (((Z.wrap (d - 1)).toNat)<b)) (cond (aq (0<=d/\d<↑g)) (cond (aq (d.toNat<b)) (cond (aq (0<=d/\d<↑g)) (cond (aq (d.toNat<b)) (cond (aq (0<=Z.wrap (d - 1)/\Z.wrap (d - 1)<(g:Int))) (cond (aq (((Z.wrap (d - 1)).toNat)<b)) (l115c87_2 g i l j b f (Z.wrap (d - 1)) ((a.upd d.toNat 0 [SV.str (a.ss ((Z.wrap (d - 1)).toNat) 0),SV.str (a.ss ((Z.wrap (d - 1)).toNat) 1),V Z (a.ii ((Z.wrap (d - 1)).toNat) 2)]).upd ((Z.wrap (d - 1)).toNat) 0 [SV.str (a.ss d.toNat 0),SV.str (a.ss d.toNat 1),V Z (a.ii d.toNat 2)])) aw) aw) aw) aw) aw) aw) aw) aw) (ak a)) aw) aw) aw) aw)
abbrev o115c87_2(g:Nat)(i l j:Int)(b:Nat)(d:Int)(a:Dat):Option (Dat):=l115c87_2 g i l j b (g+i.toNat+l.toNat+j.toNat+d.toNat+b+8) d a
def e115c87_2(g:Nat)(i l j:Int)(b:Nat)(r:Dat)(K:XR):Prop:=K (XE.exit 2) [.gr 0 3 g,V Z i,V Z l,.fn 87 [],V Z j] [.row 88 [.str,.str,W Z] b r]
def g115c87_2:LSum:=fun s k=>match czv 1 53 [0,1,2,3,8,9] 1 [] s with
 | ak ([.gr 0 3 g,V Z i,V Z l,.fn 87 [],V Z j,V Z d],[.row 88 [.str,.str,W Z] b a])=>needs [(o115c87_2 g i l j b d a).isSome] (e115c87_2 g i l j b ((o115c87_2 g i l j b d a).getD ax) fun e vs bs=>inBlk 2 k e (mkSt 1 53 [0,1,2,3,8] vs 1 bs))
 | _=>False
theorem z115c87_2:LOk Try.prog g115c87_2 (.block 2 (bodyAt (Try.f115.body.getD .skip) 2)):=by
 refine lb (ι:=Nat × Int × Int × Int × Int × Nat × Dat) (fuel:=8) (na:=1) (nt:=53) (nx:=1) (Lh:=[0,1,2,3,8,9]) (Le:=[0,1,2,3,8]) (gl:=[]) (tc k87 tn) mix_ok noLam rfl (fun f (g,i,l,j,d,b,a) K=>GG ax (e115c87_2 g i l j b) K (l115c87_2 g i l j b f d a)) (fun (g,i,l,j,d,b,a)=>[.gr 0 3 g,V Z i,V Z l,.fn 87 [],V Z j,V Z d]) (fun (g,i,l,j,d,b,a)=>[.row 88 [.str,.str,W Z] b a]) (fun (_,_,_,_,_,_,_) K=>gg_none) ?_ ?_
 ·rintro f ⟨g,i,l,j,d,b,a⟩ K hG
  refine ro (fun R => 
 let a0:=((Z.wrap (d - 1)).toNat)
 let b0:=(aq (0<=Z.wrap (d - 1)/\Z.wrap (d - 1)<(g:Int)))
 let c0:=(cond (aq (i<d)) az aj)
 let d0:=(aq (0<=d/\d<↑g))
 (cnd (bif c0 then aj else d0)
 (cnd (bif c0 then aj else (aq (d.toNat<b)))
 (cnd (bif c0 then aj else b0)
 (cnd (bif c0 then aj else (aq (a0<b)))
 (cnd (bif (aq (i<d)) then (aq ((m87 (a.ss d.toNat 0) (a.ss d.toNat 1) (a.ii d.toNat 2) (a.ss a0 0) (a.ss a0 1) (a.ii a0 2))<0)) else az)
 (cnd b0
 (cnd (aq (a0<b))
 (cnd d0
 (cnd (aq (d.toNat<b))
 (cnd d0
 (cnd (aq (d.toNat<b))
 (cnd b0
 (cnd (aq (a0<b))
 (R (XE.normal) [.gr 0 3 g,V Z i,V Z l,.fn 87 [],V Z j,V Z (Z.wrap (d - 1))] [.row 88 [.str,.str,W Z] b ((a.upd d.toNat 0 [SV.str (a.ss a0 0),SV.str (a.ss a0 1),V Z (a.ii a0 2)]).upd a0 0 [SV.str (a.ss d.toNat 0),SV.str (a.ss d.toNat 1),V Z (a.ii d.toNat 2)])])
       False)
       False)
      False)
      False)
     False)
     False)
    False)
    False)
 (R (XE.exit 2) [.gr 0 3 g,V Z i,V Z l,.fn 87 [],V Z j] [.row 88 [.str,.str,W Z] b a]))
   False)
  False)
  False)
 False)) (fun R=>by kernel_rfl) ?_
  exact cg hG fun h0=>cg h0 fun h1=>cg h1 fun h2=>cg h2 fun h3=>ch h3 (fun h4=>cg h4 fun h5=>cg h5 fun h6=>cg h6 fun h7=>cg h7 fun h8=>cg h8 fun h9=>cg h9 fun h10=>cg h10 fun h11=>cg h11 fun h12=>⟨(_,_,_,_,_,_,_),rfl,rfl,h12⟩) (fun h4=>h4.2)
 ·intro s k h
  unfold g115c87_2 at h
  split at h <;> try exact h.elim
  rename_i e1
  rw [needs_iff] at h
  exact ⟨_,e1,_,(_,_,_,_,_,_,_),rfl,rfl,h.1 _ (List.mem_singleton.2 rfl),h.2⟩
def l115c87_0(g:Nat)(i l:Int)(b:Nat):Nat->Int->Dat->Option (Dat)
 | 0,_,_=>aw
 | f+1,j,a=>(cond (aq (j<l)) (cond ((o115c87_2 g i l j b j a).isSome) (l115c87_0 g i l b f (Z.wrap (j+1)) ((o115c87_2 g i l j b j a).getD ax)) aw) (ak a))
abbrev o115c87_0(g:Nat)(i l:Int)(b:Nat)(j:Int)(a:Dat):Option (Dat):=l115c87_0 g i l b (g+i.toNat+l.toNat+j.toNat+b+8) j a
def e115c87_0(g:Nat)(i l:Int)(b:Nat)(r:Dat)(K:XR):Prop:=K (XE.exit 0) [] [.row 88 [.str,.str,W Z] b r]
def g115c87_0:LSum:=fun s k=>match czv 1 53 [0,1,2,3,8] 1 [] s with
 | ak ([.gr 0 3 g,V Z i,V Z l,.fn 87 [],V Z j],[.row 88 [.str,.str,W Z] b a])=>needs [(o115c87_0 g i l b j a).isSome] (e115c87_0 g i l b ((o115c87_0 g i l b j a).getD ax) fun e vs bs=>inBlk 0 k e (mkSt 1 53 [] vs 1 bs))
 | _=>False
theorem z115c87_0:LOk Try.prog g115c87_0 (.block 0 (bodyAt (Try.f115.body.getD .skip) 0)):=by
 refine lb (ι:=Nat × Int × Int × Int × Nat × Dat) (fuel:=8) (na:=1) (nt:=53) (nx:=1) (Lh:=[0,1,2,3,8]) (Le:=[]) (gl:=[]) (tc k87 tn) mix_ok (lam_of rfl (lc z115c87_2 ln)) rfl (fun f (g,i,l,j,b,a) K=>GG ax (e115c87_0 g i l b) K (l115c87_0 g i l b f j a)) (fun (g,i,l,j,b,a)=>[.gr 0 3 g,V Z i,V Z l,.fn 87 [],V Z j]) (fun (g,i,l,j,b,a)=>[.row 88 [.str,.str,W Z] b a]) (fun (_,_,_,_,_,_) K=>gg_none) ?_ ?_
 ·rintro f ⟨g,i,l,j,b,a⟩ K hG
  refine ro (fun R=>(cnd (aq (j<l))
 (cnd ((o115c87_2 g i l j b j a).isSome)
 (R (XE.normal) [.gr 0 3 g,V Z i,V Z l,.fn 87 [],V Z (Z.wrap (j+1))] [.row 88 [.str,.str,W Z] b ((o115c87_2 g i l j b j a).getD ax)])
  False)
 (R (XE.exit 0) [] [.row 88 [.str,.str,W Z] b a]))) (fun R=>by kernel_rfl) ?_
  exact ch hG (fun h0=>cg h0 fun h1=>⟨(_,_,_,_,_,_),rfl,rfl,h1⟩) (fun h0=>h0.2)
 ·intro s k h
  unfold g115c87_0 at h
  split at h <;> try exact h.elim
  rename_i e1
  rw [needs_iff] at h
  exact ⟨_,e1,_,(_,_,_,_,_,_),rfl,rfl,h.1 _ (List.mem_singleton.2 rfl),h.2⟩
def m115c87(m ma0:Nat)(n:Dat)(o p:Int):Nat × Dat :=
 (ma0,((o115c87_0 m o p ma0 (Z.wrap (o+1)) n).getD ax))
def n115c87(m ma0:Nat)(n:Dat)(o p:Int):Bool :=
 (((o115c87_0 m o p ma0 (Z.wrap (o+1)) n).isSome)&&aj)
def q115c87(r:Nat × Dat):SV × List Blk × List Blk:=(.tup [],[.row 88 [.str,.str,W Z] r.1 r.2],[])
def g115c87:GF:=fun vs bs=>match vs,bs with
 | [.gr 0 3 m,V Z o,V Z p,.fn 87 []],[.row 88 [.str,.str,W Z] ma0 n]=>ak (rs 1 (q115c87 (m115c87 m ma0 n o p)) [n115c87 m ma0 n o p])
 | _,_=>aw
def c115c87:Ctr:=genC [.gr 88 [.str,.str,W Z],.k,.k,.f []] g115c87
theorem k115c87:CtrOk Try.prog c115c87 115:=cx (tc k87 tn) mix_ok 8 (fn:=Try.f115) (c:=(Try.f115.body.getD .skip)) (grs:=[]) (rh:=.k) Try.func115 rfl (by kernel_rfl) (lam_of rfl (lc z115c87_2 (lc z115c87_0 ln))) fun vs bs q h hn=>by
 unfold g115c87 at h
 split at h <;> cases h
 rename_i m o p ma0 n
 have hn:=n1 hn
 exact ⟨_,rfl,ca (fun R=>(cnd ((o115c87_0 m o p ma0 (Z.wrap (o+1)) n).isSome)
 (R (.tup []) [.row 88 [.str,.str,W Z] ma0 ((o115c87_0 m o p ma0 (Z.wrap (o+1)) n).getD ax)] [])
 False)) (fun R=>by kernel_rfl) (cn (al hn) (lf rfl rfl))⟩
/-! ### slices.pdqsortCmpFunc[shotline/kit.batch] -/
def m110c98(a ma0:Nat)(b:Dat)(d e g:Int):Nat × Dat :=
 ((m118c98 a ma0 b d e).1,(m118c98 a ma0 b d e).2)
def n110c98(a ma0:Nat)(b:Dat)(d e g:Int):Bool :=
 ((aq ((Z.wrap (e - d))<=12))&&((n118c98 a ma0 b d e)&&aj))
def q110c98(r:Nat × Dat):SV × List Blk × List Blk:=(.tup [],[.row 133 [W Z,W Z] r.1 r.2],[])
def g110c98:GF:=fun vs bs=>match vs,bs with
 | [.gr 0 2 a,V Z d,V Z e,V Z g,.fn 98 []],[.row 133 [W Z,W Z] ma0 b]=>ak (rs 1 (q110c98 (m110c98 a ma0 b d e g)) [n110c98 a ma0 b d e g])
 | _,_=>aw
def c110c98:Ctr:=genC [.gr 133 [W Z,W Z],.k,.k,.k,.f []] g110c98
theorem k110c98:CtrOk Try.prog c110c98 110:=cx (tc k98 (tc k118c98 tn)) mix_ok 8 (fn:=Try.f110) (c:=(Try.f110.body.getD .skip)) (grs:=[]) (rh:=.k) Try.func110 rfl (by kernel_rfl) noLam fun vs bs q h hn=>by
 unfold g110c98 at h
 split at h <;> cases h
 rename_i a d e g ma0 b
 have hn:=n1 hn
 exact ⟨_,rfl,ca (fun R=>(cnd (aq ((Z.wrap (e - d))<=12))
 (cnd (n118c98 a ma0 b d e)
 (R (.tup []) [.row 133 [W Z,W Z] (m118c98 a ma0 b d e).1 (m118c98 a ma0 b d e).2] [])
  False)
 (cnd (aq (g=0))
  False
  False))) (fun R=>by kernel_rfl) (co (fun _=>cn (al (ar hn)) (lf rfl rfl)) (fun h0=>(Bool.false_ne_true (h0.symm.trans (al hn))).elim))⟩
/-! ### slices.SortFunc[[]shotline/kit.batch,shotline/kit.batch] -/
def m97c98(a ma0:Nat)(b:Dat):Nat × Dat :=
 ((m110c98 a ma0 b 0 (a:Int) (m111 (IntKind.u64.wrap (a:Int)))).1,(m110c98 a ma0 b 0 (a:Int) (m111 (IntKind.u64.wrap (a:Int)))).2)
def n97c98(a ma0:Nat)(b:Dat):Bool :=
 ((n111 (IntKind.u64.wrap (a:Int)))&&((n110c98 a ma0 b 0 (a:Int) (m111 (IntKind.u64.wrap (a:Int))))&&aj))
def q97c98(r:Nat × Dat):SV × List Blk × List Blk:=(.tup [],[.row 133 [W Z,W Z] r.1 r.2],[])
def g97c98:GF:=fun vs bs=>match vs,bs with
 | [.gr 0 2 a,.fn 98 []],[.row 133 [W Z,W Z] ma0 b]=>ak (rs 1 (q97c98 (m97c98 a ma0 b)) [n97c98 a ma0 b])
 | _,_=>aw
def c97c98:Ctr:=genC [.gr 133 [W Z,W Z],.f []] g97c98
theorem k97c98:CtrOk Try.prog c97c98 97:=cx (tc k98 (tc k110c98 (tc k111 tn))) mix_ok 8 (fn:=Try.f97) (c:=(Try.f97.body.getD .skip)) (grs:=[]) (rh:=.k) Try.func97 rfl (by kernel_rfl) noLam fun vs bs q h hn=>by
 unfold g97c98 at h
 split at h <;> cases h
 rename_i a ma0 b
 have hn:=n1 hn
 exact ⟨_,rfl,ca (fun R=>(cnd (n111 (IntKind.u64.wrap (a:Int)))
 (cnd (n110c98 a ma0 b 0 (a:Int) (m111 (IntKind.u64.wrap (a:Int))))
 (R (.tup []) [.row 133 [W Z,W Z] (m110c98 a ma0 b 0 (a:Int) (m111 (IntKind.u64.wrap (a:Int)))).1 (m110c98 a ma0 b 0 (a:Int) (m111 (IntKind.u64.wrap (a:Int)))).2] [])
  False)
 False)) (fun R=>by kernel_rfl) (cn (al hn) (cn (al (ar hn)) (lf rfl rfl)))⟩
/-! ### slices.Index[[]*shotline/kit.thing,*shotline/kit.thing] -/
def l117rz_0(a:Nat)(d:Dat)(g:Bool)(b:Nat)(i:Dat)(m:Int):Nat->Int->Option (Bool × (Int) × (Unit))
 | 0,_=>aw
 | f+1,l=>(cond (aq (l<m)) (cond (aq (0<=l/\l<↑a)) (cond (bif g then (aj&&(b.beq (d.sn l.toNat 0))) else az) (ak (aj,l,ax)) (l117rz_0 a d g b i m f (Z.wrap (l+1)))) aw) (ak (az,ax,())))
abbrev o117rz_0(a:Nat)(d:Dat)(g:Bool)(b:Nat)(i:Dat)(m l:Int):Option (Bool × (Int) × (Unit)):=l117rz_0 a d g b i m (a+b+m.toNat+l.toNat+8) l
def e117rz_0(a:Nat)(d:Dat)(g:Bool)(b:Nat)(i:Dat)(m:Int)(r:Bool × (Int) × (Unit))(K:XR):Prop:=cnd r.1 (K (XE.ret) [V Z r.2.1] []) (K (XE.exit 0) [.any] [])
def g117rz_0:LSum:=fun s k=>match czv 0 19 [0,1,7,8] 0 [] s with
 | ak ([.ro [.pz [.str,W Z,W Z,.mi [W Z,W Z,.bool],.mb,.mb,W Z,.bool,.m1]] a d,.rz g b [.str,W Z,W Z,.mi [W Z,W Z,.bool],.mb,.mb,W Z,.bool,.m1] i,V Z m,V Z l],[])=>needs [(o117rz_0 a d g b i m l).isSome] (e117rz_0 a d g b i m ((o117rz_0 a d g b i m l).getD ax) fun e vs bs=>inBlk 0 k e (mkSt 0 19 [4] vs 0 bs))
 | _=>False
theorem z117rz_0:LOk Try.prog g117rz_0 (.block 0 (bodyAt (Try.f117.body.getD .skip) 0)):=by
 refine lb (ι:=Nat × Dat × Bool × Nat × Dat × Int × Int) (fuel:=8) (na:=0) (nt:=19) (nx:=0) (Lh:=[0,1,7,8]) (Le:=[4]) (gl:=[]) tn mix_ok noLam rfl (fun f (a,d,g,b,i,m,l) K=>GG ax (e117rz_0 a d g b i m) K (l117rz_0 a d g b i m f l)) (fun (a,d,g,b,i,m,l)=>[.ro [.pz [.str,W Z,W Z,.mi [W Z,W Z,.bool],.mb,.mb,W Z,.bool,.m1]] a d,.rz g b [.str,W Z,W Z,.mi [W Z,W Z,.bool],.mb,.mb,W Z,.bool,.m1] i,V Z m,V Z l]) (fun (a,d,g,b,i,m,l)=>[]) (fun (_,_,_,_,_,_,_) K=>gg_none) ?_ ?_
 ·rintro f ⟨a,d,g,b,i,m,l⟩ K hG
  refine ro (fun R=>(cnd (aq (l<m))
 (cnd (aq (0<=l/\l<↑a))
 (cnd (bif g then (aj&&(b.beq (d.sn l.toNat 0))) else az)
 (R (XE.ret) [V Z l] [])
 (R (XE.normal) [.ro [.pz [.str,W Z,W Z,.mi [W Z,W Z,.bool],.mb,.mb,W Z,.bool,.m1]] a d,.rz g b [.str,W Z,W Z,.mi [W Z,W Z,.bool],.mb,.mb,W Z,.bool,.m1] i,V Z m,V Z (Z.wrap (l+1))] []))
  False)
 (R (XE.exit 0) [.any] []))) (fun R=>by kernel_rfl) ?_
  exact ch hG (fun h0=>cg h0 fun h1=>ch h1 (fun h2=>h2.2) (fun h2=>⟨(_,_,_,_,_,_,_),rfl,rfl,h2⟩)) (fun h0=>h0.2)
 ·intro s k h
  unfold g117rz_0 at h
  split at h <;> try exact h.elim
  rename_i e1
  rw [needs_iff] at h
  exact ⟨_,e1,_,(_,_,_,_,_,_,_),rfl,rfl,h.1 _ (List.mem_singleton.2 rfl),h.2⟩
def m117rz(j:Nat)(n:Dat)(ia1:Nat)(o:Dat):Int :=
 (cond ((o117rz_0 j n aj ia1 o (j:Int) 0).getD ax).1 ((o117rz_0 j n aj ia1 o (j:Int) 0).getD ax).2.1 (-1))
def n117rz(j:Nat)(n:Dat)(ia1:Nat)(o:Dat):Bool :=
 (((o117rz_0 j n aj ia1 o (j:Int) 0).isSome)&&aj)
def q117rz(r:Int):SV × List Blk × List Blk:=(V Z r,[],[])
def g117rz:GF:=fun vs bs=>match vs,bs with
 | [.ro [.pz [.str,W Z,W Z,.mi [W Z,W Z,.bool],.mb,.mb,W Z,.bool,.m1]] j n,.rz aj ia1 [.str,W Z,W Z,.mi [W Z,W Z,.bool],.mb,.mb,W Z,.bool,.m1] o],[]=>ak (rs 0 (q117rz (m117rz j n ia1 o)) [n117rz j n ia1 o])
 | _,_=>aw
def c117rz:Ctr:=genC [.ro [.pz [.str,W Z,W Z,.mi [W Z,W Z,.bool],.mb,.mb,W Z,.bool,.m1]],.k] g117rz
theorem k117rz:CtrOk Try.prog c117rz 117:=cx tn mix_ok 8 (fn:=Try.f117) (c:=(Try.f117.body.getD .skip)) (grs:=[]) (rh:=.k) Try.func117 rfl (by kernel_rfl) (lam_of rfl (lc z117rz_0 ln)) fun vs bs q h hn=>by
 unfold g117rz at h
 split at h <;> cases h
 rename_i j n ia1 o
 have hn:=n1 hn
 exact ⟨_,rfl,ca (fun R=>(cnd ((o117rz_0 j n aj ia1 o (j:Int) 0).isSome)
 (cnd ((o117rz_0 j n aj ia1 o (j:Int) 0).getD ax).1
 (R (V Z ((o117rz_0 j n aj ia1 o (j:Int) 0).getD ax).2.1) [] [])
 (R (V Z (-1)) [] []))
 False)) (fun R=>by kernel_rfl) (cn (al hn) (co (fun h0=>lf (cT h0 rfl) rfl) (fun h0=>lf (cF h0 rfl) rfl)))⟩
/-! ### slices.swapRangeCmpFunc[shotline/api.KitDue] -/
def l135c87_0(j:Nat)(g i l:Int)(b:Nat):Nat->Int->Dat->Option (Dat)
 | 0,_,_=>aw
 | f+1,a,d=>(cond (aq (a<l)) (cond (aq (0<=Z.wrap (i+a)/\Z.wrap (i+a)<(j:Int))) (cond (aq (((Z.wrap (i+a)).toNat)<b)) (cond (aq (0<=Z.wrap (g+a)/\Z.wrap (g+a)<(j:Int))) (cond (aq (((Z.wrap (g+a)).toNat)<b)) (cond (aq (0<=Z.wrap (g+a)/\Z.wrap (g+a)<(j:Int))) (cond (aq (((Z.wrap (g+a)).toNat)<b)) (cond (aq (0<=Z.wrap (i+a)/\Z.wrap (i+a)<(j:Int))) (cond (aq (((Z.wrap (i+a)).toNat)<b)) (l135c87_0 j g i l b f (Z.wrap (a+1)) ((d.upd ((Z.wrap (g+a)).toNat) 0 [SV.str (d.ss ((Z.wrap (i+a)).toNat) 0),SV.str (d.ss ((Z.wrap (i+a)).toNat) 1),V Z (d.ii ((Z.wrap (i+a)).toNat) 2)]).upd ((Z.wrap (i+a)).toNat) 0 [SV.str (d.ss ((Z.wrap (g+a)).toNat) 0),SV.str (d.ss ((Z.wrap (g+a)).toNat) 1),V Z (d.ii ((Z.wrap (g+a)).toNat) 2)])) aw) aw) aw) aw) aw) aw) aw) aw) (ak d))
abbrev o135c87_0(j:Nat)(g i l:Int)(b:Nat)(a:Int)(d:Dat):Option (Dat):=l135c87_0 j g i l b (j+g.toNat+i.toNat+l.toNat+a.toNat+b+8) a d
def e135c87_0(j:Nat)(g i l:Int)(b:Nat)(r:Dat)(K:XR):Prop:=K (XE.exit 0) [] [.row 88 [.str,.str,W Z] b r]
def g135c87_0:LSum:=fun s k=>match czv 1 38 [0,1,2,3,10] 1 [] s with
 | ak ([.gr 0 3 j,V Z g,V Z i,V Z l,V Z a],[.row 88 [.str,.str,W Z] b d])=>needs [(o135c87_0 j g i l b a d).isSome] (e135c87_0 j g i l b ((o135c87_0 j g i l b a d).getD ax) fun e vs bs=>inBlk 0 k e (mkSt 1 38 [] vs 1 bs))
 | _=>False
theorem z135c87_0:LOk Try.prog g135c87_0 (.block 0 (bodyAt (Try.f135.body.getD .skip) 0)):=by
 refine lb (ι:=Nat × Int × Int × Int × Int × Nat × Dat) (fuel:=8) (na:=1) (nt:=38) (nx:=1) (Lh:=[0,1,2,3,10]) (Le:=[]) (gl:=[]) (tc k87 tn) mix_ok noLam rfl (fun f (j,g,i,l,a,b,d) K=>GG ax (e135c87_0 j g i l b) K (l135c87_0 j g i l b f a d)) (fun (j,g,i,l,a,b,d)=>[.gr 0 3 j,V Z g,V Z i,V Z l,V Z a]) (fun (j,g,i,l,a,b,d)=>[.row 88 [.str,.str,W Z] b d]) (fun (_,_,_,_,_,_,_) K=>gg_none) ?_ ?_
 ·rintro f ⟨j,g,i,l,a,b,d⟩ K hG
  refine ro (fun R => 
 let a0:=((Z.wrap (i+a)).toNat)
 let b0:=((Z.wrap (g+a)).toNat)
 let c0:=(aq (0<=Z.wrap (i+a)/\Z.wrap (i+a)<(j:Int)))
 let d0:=(aq (0<=Z.wrap (g+a)/\Z.wrap (g+a)<(j:Int)))
 (cnd (aq (a<l))
 (cnd c0
 (cnd (aq (a0<b))
 (cnd d0
 (cnd (aq (b0<b))
 (cnd d0
 (cnd (aq (b0<b))
 (cnd c0
 (cnd (aq (a0<b))
 (R (XE.normal) [.gr 0 3 j,V Z g,V Z i,V Z l,V Z (Z.wrap (a+1))] [.row 88 [.str,.str,W Z] b ((d.upd b0 0 [SV.str (d.ss a0 0),SV.str (d.ss a0 1),V Z (d.ii a0 2)]).upd a0 0 [SV.str (d.ss b0 0),SV.str (d.ss b0 1),V Z (d.ii b0 2)])])
     False)
     False)
    False)
    False)
   False)
   False)
  False)
  False)
 (R (XE.exit 0) [] [.row 88 [.str,.str,W Z] b d]))) (fun R=>by kernel_rfl) ?_
  exact ch hG (fun h0=>cg h0 fun h1=>cg h1 fun h2=>cg h2 fun h3=>cg h3 fun h4=>cg h4 fun h5=>cg h5 fun h6=>cg h6 fun h7=>cg h7 fun h8=>⟨(_,_,_,_,_,_,_),rfl,rfl,h8⟩) (fun h0=>h0.2)
 ·intro s k h
  unfold g135c87_0 at h
  split at h <;> try exact h.elim
  rename_i e1
  rw [needs_iff] at h
  exact ⟨_,e1,_,(_,_,_,_,_,_,_),rfl,rfl,h.1 _ (List.mem_singleton.2 rfl),h.2⟩
def m135c87(m ma0:Nat)(n:Dat)(o p t:Int):Nat × Dat :=
 (ma0,((o135c87_0 m o p t ma0 0 n).getD ax))
def n135c87(m ma0:Nat)(n:Dat)(o p t:Int):Bool :=
 (((o135c87_0 m o p t ma0 0 n).isSome)&&aj)
def q135c87(r:Nat × Dat):SV × List Blk × List Blk:=(.tup [],[.row 88 [.str,.str,W Z] r.1 r.2],[])
def g135c87:GF:=fun vs bs=>match vs,bs with
 | [.gr 0 3 m,V Z o,V Z p,V Z t,.fn 87 []],[.row 88 [.str,.str,W Z] ma0 n]=>ak (rs 1 (q135c87 (m135c87 m ma0 n o p t)) [n135c87 m ma0 n o p t])
 | _,_=>aw
def c135c87:Ctr:=genC [.gr 88 [.str,.str,W Z],.k,.k,.k,.f []] g135c87
theorem k135c87:CtrOk Try.prog c135c87 135:=cx (tc k87 tn) mix_ok 8 (fn:=Try.f135) (c:=(Try.f135.body.getD .skip)) (grs:=[]) (rh:=.k) Try.func135 rfl (by kernel_rfl) (lam_of rfl (lc z135c87_0 ln)) fun vs bs q h hn=>by
 unfold g135c87 at h
 split at h <;> cases h
 rename_i m o p t ma0 n
 have hn:=n1 hn
 exact ⟨_,rfl,ca (fun R=>(cnd ((o135c87_0 m o p t ma0 0 n).isSome)
 (R (.tup []) [.row 88 [.str,.str,W Z] ma0 ((o135c87_0 m o p t ma0 0 n).getD ax)] [])
 False)) (fun R=>by kernel_rfl) (cn (al hn) (lf rfl rfl))⟩
/-! ### slices.rotateCmpFunc[shotline/api.KitDue] -/
def l129c87_0(n:Nat)(m:Int):Nat->Int->Int->Nat->Dat->Option (Int × Nat × Dat)
 | 0,_,_,_,_=>aw
 | f+1,b,i,g,j=>(cond (cond (aq (b=i)) az aj) (cond (aq (i<b)) (cond (n135c87 n g j (Z.wrap (m - b)) m i) (l129c87_0 n m f (Z.wrap (b - i)) i (m135c87 n g j (Z.wrap (m - b)) m i).1 (m135c87 n g j (Z.wrap (m - b)) m i).2) aw) (cond (n135c87 n g j (Z.wrap (m - b)) (Z.wrap ((Z.wrap (m+i)) - b)) b) (l129c87_0 n m f b (Z.wrap (i - b)) (m135c87 n g j (Z.wrap (m - b)) (Z.wrap ((Z.wrap (m+i)) - b)) b).1 (m135c87 n g j (Z.wrap (m - b)) (Z.wrap ((Z.wrap (m+i)) - b)) b).2) aw)) (ak (b,g,j)))
abbrev o129c87_0(n:Nat)(m b i:Int)(g:Nat)(j:Dat):Option (Int × Nat × Dat):=l129c87_0 n m (n+m.toNat+b.toNat+i.toNat+g+8) b i g j
def e129c87_0(n:Nat)(m:Int)(r:Int × Nat × Dat)(K:XR):Prop:=K (XE.exit 0) [.gr 0 3 n,V Z m,.fn 87 [],V Z r.1] [.row 88 [.str,.str,W Z] r.2.1 r.2.2]
def g129c87_0:LSum:=fun s k=>match czv 1 58 [0,2,4,10,11] 1 [] s with
 | ak ([.gr 0 3 n,V Z m,.fn 87 [],V Z b,V Z i],[.row 88 [.str,.str,W Z] g j])=>needs [(o129c87_0 n m b i g j).isSome] (e129c87_0 n m ((o129c87_0 n m b i g j).getD ax) fun e vs bs=>inBlk 0 k e (mkSt 1 58 [0,2,4,10] vs 1 bs))
 | _=>False
theorem z129c87_0:LOk Try.prog g129c87_0 (.block 0 (bodyAt (Try.f129.body.getD .skip) 0)):=by
 refine lb (ι:=Nat × Int × Int × Int × Nat × Dat) (fuel:=8) (na:=1) (nt:=58) (nx:=1) (Lh:=[0,2,4,10,11]) (Le:=[0,2,4,10]) (gl:=[]) (tc k87 (tc k135c87 tn)) mix_ok noLam rfl (fun f (n,m,b,i,g,j) K=>GG ax (e129c87_0 n m) K (l129c87_0 n m f b i g j)) (fun (n,m,b,i,g,j)=>[.gr 0 3 n,V Z m,.fn 87 [],V Z b,V Z i]) (fun (n,m,b,i,g,j)=>[.row 88 [.str,.str,W Z] g j]) (fun (_,_,_,_,_,_) K=>gg_none) ?_ ?_
 ·rintro f ⟨n,m,b,i,g,j⟩ K hG
  refine ro (fun R => 
 let a0:=(m135c87 n g j (Z.wrap (m - b)) (Z.wrap ((Z.wrap (m+i)) - b)) b)
 (cnd (cond (aq (b=i)) az aj)
 (cnd (aq (i<b))
 (cnd (n135c87 n g j (Z.wrap (m - b)) m i)
 (R (XE.normal) [.gr 0 3 n,V Z m,.fn 87 [],V Z (Z.wrap (b - i)),V Z i] [.row 88 [.str,.str,W Z] (m135c87 n g j (Z.wrap (m - b)) m i).1 (m135c87 n g j (Z.wrap (m - b)) m i).2])
  False)
 (cnd (n135c87 n g j (Z.wrap (m - b)) (Z.wrap ((Z.wrap (m+i)) - b)) b)
 (R (XE.normal) [.gr 0 3 n,V Z m,.fn 87 [],V Z b,V Z (Z.wrap (i - b))] [.row 88 [.str,.str,W Z] a0.1 a0.2])
  False))
 (R (XE.exit 0) [.gr 0 3 n,V Z m,.fn 87 [],V Z b] [.row 88 [.str,.str,W Z] g j]))) (fun R=>by kernel_rfl) ?_
  exact ch hG (fun h0=>ch h0 (fun h1=>cg h1 fun h2=>⟨(_,_,_,_,_,_),rfl,rfl,h2⟩) (fun h1=>cg h1 fun h2=>⟨(_,_,_,_,_,_),rfl,rfl,h2⟩)) (fun h0=>h0.2)
 ·intro s k h
  unfold g129c87_0 at h
  split at h <;> try exact h.elim
  rename_i e1
  rw [needs_iff] at h
  exact ⟨_,e1,_,(_,_,_,_,_,_),rfl,rfl,h.1 _ (List.mem_singleton.2 rfl),h.2⟩
def m129c87(d ma0:Nat)(l:Dat)(o a p:Int):Nat × Dat :=
 ((m135c87 d ((o129c87_0 d a (Z.wrap (a - o)) (Z.wrap (p - a)) ma0 l).getD ax).2.1 ((o129c87_0 d a (Z.wrap (a - o)) (Z.wrap (p - a)) ma0 l).getD ax).2.2 (Z.wrap (a - ((o129c87_0 d a (Z.wrap (a - o)) (Z.wrap (p - a)) ma0 l).getD ax).1)) a ((o129c87_0 d a (Z.wrap (a - o)) (Z.wrap (p - a)) ma0 l).getD ax).1).1,(m135c87 d ((o129c87_0 d a (Z.wrap (a - o)) (Z.wrap (p - a)) ma0 l).getD ax).2.1 ((o129c87_0 d a (Z.wrap (a - o)) (Z.wrap (p - a)) ma0 l).getD ax).2.2 (Z.wrap (a - ((o129c87_0 d a (Z.wrap (a - o)) (Z.wrap (p - a)) ma0 l).getD ax).1)) a ((o129c87_0 d a (Z.wrap (a - o)) (Z.wrap (p - a)) ma0 l).getD ax).1).2)
def n129c87(d ma0:Nat)(l:Dat)(o a p:Int):Bool :=
 (((o129c87_0 d a (Z.wrap (a - o)) (Z.wrap (p - a)) ma0 l).isSome)&&((n135c87 d ((o129c87_0 d a (Z.wrap (a - o)) (Z.wrap (p - a)) ma0 l).getD ax).2.1 ((o129c87_0 d a (Z.wrap (a - o)) (Z.wrap (p - a)) ma0 l).getD ax).2.2 (Z.wrap (a - ((o129c87_0 d a (Z.wrap (a - o)) (Z.wrap (p - a)) ma0 l).getD ax).1)) a ((o129c87_0 d a (Z.wrap (a - o)) (Z.wrap (p - a)) ma0 l).getD ax).1)&&aj))
def q129c87(r:Nat × Dat):SV × List Blk × List Blk:=(.tup [],[.row 88 [.str,.str,W Z] r.1 r.2],[])
def g129c87:GF:=fun vs bs=>match vs,bs with
 | [.gr 0 3 d,V Z o,V Z a,V Z p,.fn 87 []],[.row 88 [.str,.str,W Z] ma0 l]=>ak (rs 1 (q129c87 (m129c87 d ma0 l o a p)) [n129c87 d ma0 l o a p])
 | _,_=>aw
def c129c87:Ctr:=genC [.gr 88 [.str,.str,W Z],.k,.k,.k,.f []] g129c87
theorem k129c87:CtrOk Try.prog c129c87 129:=cx (tc k87 (tc k135c87 tn)) mix_ok 8 (fn:=Try.f129) (c:=(Try.f129.body.getD .skip)) (grs:=[]) (rh:=.k) Try.func129 rfl (by kernel_rfl) (lam_of rfl (lc z129c87_0 ln)) fun vs bs q h hn=>by
 unfold g129c87 at h
 split at h <;> cases h
 rename_i d o a p ma0 l
 have hn:=n1 hn
 exact ⟨_,rfl,ca (fun R => 
 let a0:=((o129c87_0 d a (Z.wrap (a - o)) (Z.wrap (p - a)) ma0 l).getD ax)
 let b0:=(m135c87 d a0.2.1 a0.2.2 (Z.wrap (a - a0.1)) a a0.1)
 (cnd ((o129c87_0 d a (Z.wrap (a - o)) (Z.wrap (p - a)) ma0 l).isSome)
 (cnd (n135c87 d a0.2.1 a0.2.2 (Z.wrap (a - a0.1)) a a0.1)
 (R (.tup []) [.row 88 [.str,.str,W Z] b0.1 b0.2] [])
  False)
 False)) (fun R=>by kernel_rfl) (cn (al hn) (cn (al (ar hn)) (lf rfl rfl)))⟩
end
end Go.Proofs.Ytldjapmfmhifkaa

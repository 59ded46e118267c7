/-
 Contracts of functions: models, equations by the kernel, contracts. Conditions: none.
-/
import Derived.Test.YtdcdjjogieojhaaGreatDoorK3
import Derived.KernelRfl
set_option linter.unusedVariables false
set_option linter.unusedSimpArgs false
set_option linter.unusedSectionVars false
namespace Go.Proofs.YtdcdjjogieojhaaGreatDoor
open Go Go.Sy
noncomputable section
set_option maxRecDepth 100000
set_option maxHeartbeats 2000000
attribute [local irreducible] Go.IntKind.wrap Int.tdiv Int.tmod Int.fdiv
attribute [local instance 2000] Go.Sy.G0
open Go.Sy renaming B8->tc,AM->tn,AH->cn,GV->lf,IA->cg,GA->ch,AC->cf,IB->ct,Df->co,Iw->ca,roundOf->ro,GB->nn,El->lc,Fk->ln,FY->cT,Cs->cF,J7->n1,Bl->rs,CE->al,Al->ar,M6->og,ID->cx,Fo->lb
open Go.IntKind renaming i64->Z
open Go.Sy.SV renaming int->V
open Go.Sy.Kd renaming int->W
open Decidable renaming decide->aq
open Inhabited renaming default->ax
open Bool renaming true->az
open Option renaming some->aj,none->ak
/-! ### (*shotline/kit.shop).reasons -/
def l62_0(u o:Dat)(y:Int)(m:Nat)(d:Dat)(w:Int):Nat->Nat->Int->Dat->Option (Nat × Nat × Dat)
 | 0,_,_,_=>ak
 | f+1,n,i,l=>(cond (aq (i<w)) (cond (aq (0<=i/\i<↑m)) (cond (bif (aq (0<=i)) then ((o.sub 0 3).bb i.toNat 0) else false) (cond (bif (aq (0<=i)) then ((o.sub 0 3).bb i.toNat 0) else false) (cond (m88 ((o.sub 0 3).sub i.toNat 1) (d.ss i.toNat 0) (d.ii i.toNat 1) (d.ii i.toNat 2) (d.ii i.toNat 3) y).2 (cond (aq ((n+1)<=1073741824)) (l62_0 u o y m d w f (n+1) (Z.wrap (i+1)) (l.app n (Aw [V Z (m88 ((o.sub 0 3).sub i.toNat 1) (d.ss i.toNat 0) (d.ii i.toNat 1) (d.ii i.toNat 2) (d.ii i.toNat 3) y).1,SV.str (d.ss i.toNat 0),SV.str ({ data:=#[] }:BA),V Z 0] 4))) ak) (l62_0 u o y m d w f n (Z.wrap (i+1)) l)) ak) (l62_0 u o y m d w f n (Z.wrap (i+1)) l)) ak) (aj (n,n,l)))
abbrev o62_0(u o:Dat)(y:Int)(m:Nat)(d:Dat)(w:Int)(n:Nat)(i:Int)(l:Dat):Option (Nat × Nat × Dat):=l62_0 u o y m d w (y.toNat+n+m+w.toNat+i.toNat+8) n i l
def e62_0(u o:Dat)(y:Int)(m:Nat)(d:Dat)(w:Int)(r:Nat × Nat × Dat)(K:XR):Prop:=K (XE.exit 0) [.rp [.sl [.str,W Z,W Z],.sl [.str,W Z,W Z,W Z],.sl [.pt [.str,W Z,W Z,.mi [W Z,W Z,.bool],.mb,.mb,W Z,.bool,.m1]],W Z] u 0 0,.rp [.str,W Z,W Z,.mi [W Z,W Z,.bool],.mb,.mb,W Z,.bool,.m1] o 0 0,.gr 0 4 r.1] [.row 70 [W Z,.str,.str,W Z] r.2.1 r.2.2]
def g62_0:AX:=fun s k=>match czv 0 92 [0,1,2,7,20,21,22] 1 [⟨az,7,0,0,70,[W Z,.str,.str,W Z]⟩] s with
 | aj ([.rp [.sl [.str,W Z,W Z],.sl [.str,W Z,W Z,W Z],.sl [.pt [.str,W Z,W Z,.mi [W Z,W Z,.bool],.mb,.mb,W Z,.bool,.m1]],W Z] u 0 0,.rp [.str,W Z,W Z,.mi [W Z,W Z,.bool],.mb,.mb,W Z,.bool,.m1] o 0 0,V Z y,.gr 0 4 n,.ro [.str,W Z,W Z,W Z] m d,V Z w,V Z i],[.row 70 [W Z,.str,.str,W Z] v l])=>Ay [decide (n=v),(o62_0 u o y m d w n i l).isSome] (e62_0 u o y m d w ((o62_0 u o y m d w n i l).getD ax) fun e vs bs=>AL 0 k e (Aq 0 92 [0,1,7] vs 1 bs))
 | _=>False
theorem z62_0:LOk Tryz.prog g62_0 (.block 0 (Ad (Tryz.f62.body.getD .skip) 0)):=by
 refine lb (ι:=Dat × Dat × Int × Nat × Nat × Dat × Int × Int × Dat) (fuel:=8) (na:=0) (nt:=92) (nx:=1) (Lh:=[0,1,2,7,20,21,22]) (Le:=[0,1,7]) (gl:=[⟨az,7,0,0,70,[W Z,.str,.str,W Z]⟩]) (tc k59c60 (tc k89 (tc k60 (tc k88 tn)))) A6 As rfl (fun f (u,o,y,n,m,d,w,i,l) K=>GG ax (e62_0 u o y m d w) K (l62_0 u o y m d w f n i l)) (fun (u,o,y,n,m,d,w,i,l)=>[.rp [.sl [.str,W Z,W Z],.sl [.str,W Z,W Z,W Z],.sl [.pt [.str,W Z,W Z,.mi [W Z,W Z,.bool],.mb,.mb,W Z,.bool,.m1]],W Z] u 0 0,.rp [.str,W Z,W Z,.mi [W Z,W Z,.bool],.mb,.mb,W Z,.bool,.m1] o 0 0,V Z y,.gr 0 4 n,.ro [.str,W Z,W Z,W Z] m d,V Z w,V Z i]) (fun (u,o,y,n,m,d,w,i,l)=>[.row 70 [W Z,.str,.str,W Z] n l]) (fun (_,_,_,_,_,_,_,_,_) K=>Au) ?_ ?_
 .rintro f ⟨u,o,y,n,m,d,w,i,l⟩ K hG
  refine ro (fun R => 
 let a0:=(m88 ((o.sub 0 3).sub i.toNat 1) (d.ss i.toNat 0) (d.ii i.toNat 1) (d.ii i.toNat 2) (d.ii i.toNat 3) y)
 let b0:=(bif (aq (0<=i)) then ((o.sub 0 3).bb i.toNat 0) else false)
 (cnd (aq (i<w))
 (cnd (aq (0<=i/\i<↑m))
 (cnd b0
 (cnd b0
 (cnd a0.2
 (cnd (aq (n<=n))
 (cnd (aq ((n+1)<=1073741824))
 (R (XE.normal) [.rp [.sl [.str,W Z,W Z],.sl [.str,W Z,W Z,W Z],.sl [.pt [.str,W Z,W Z,.mi [W Z,W Z,.bool],.mb,.mb,W Z,.bool,.m1]],W Z] u 0 0,.rp [.str,W Z,W Z,.mi [W Z,W Z,.bool],.mb,.mb,W Z,.bool,.m1] o 0 0,V Z y,.gr 0 4 (n+1),.ro [.str,W Z,W Z,W Z] m d,V Z w,V Z (Z.wrap (i+1))] [.row 70 [W Z,.str,.str,W Z] (n+1) (l.app n (Aw [V Z a0.1,SV.str (d.ss i.toNat 0),SV.str ({ data:=#[] }:BA),V Z 0] 4))])
    False)
    False)
 (R (XE.normal) [.rp [.sl [.str,W Z,W Z],.sl [.str,W Z,W Z,W Z],.sl [.pt [.str,W Z,W Z,.mi [W Z,W Z,.bool],.mb,.mb,W Z,.bool,.m1]],W Z] u 0 0,.rp [.str,W Z,W Z,.mi [W Z,W Z,.bool],.mb,.mb,W Z,.bool,.m1] o 0 0,V Z y,.gr 0 4 n,.ro [.str,W Z,W Z,W Z] m d,V Z w,V Z (Z.wrap (i+1))] [.row 70 [W Z,.str,.str,W Z] n l]))
   False)
 (R (XE.normal) [.rp [.sl [.str,W Z,W Z],.sl [.str,W Z,W Z,W Z],.sl [.pt [.str,W Z,W Z,.mi [W Z,W Z,.bool],.mb,.mb,W Z,.bool,.m1]],W Z] u 0 0,.rp [.str,W Z,W Z,.mi [W Z,W Z,.bool],.mb,.mb,W Z,.bool,.m1] o 0 0,V Z y,.gr 0 4 n,.ro [.str,W Z,W Z,W Z] m d,V Z w,V Z (Z.wrap (i+1))] [.row 70 [W Z,.str,.str,W Z] n l]))
  False)
 (R (XE.exit 0) [.rp [.sl [.str,W Z,W Z],.sl [.str,W Z,W Z,W Z],.sl [.pt [.str,W Z,W Z,.mi [W Z,W Z,.bool],.mb,.mb,W Z,.bool,.m1]],W Z] u 0 0,.rp [.str,W Z,W Z,.mi [W Z,W Z,.bool],.mb,.mb,W Z,.bool,.m1] o 0 0,.gr 0 4 n] [.row 70 [W Z,.str,.str,W Z] n l]))) (fun R=>by kernel_rfl) ?_
  exact ch hG (fun h0=>cg h0 fun h1=>ch h1 (fun h2=>cg h2 fun h3=>ch h3 (fun h4=>cn (decide_eq_true (Nat.le_refl _)) (cg h4 fun h5=>⟨(_,_,_,_,_,_,_,_,_),rfl,rfl,h5⟩)) (fun h4=>⟨(_,_,_,_,_,_,_,_,_),rfl,rfl,h4⟩)) (fun h2=>⟨(_,_,_,_,_,_,_,_,_),rfl,rfl,h2⟩)) (fun h0=>h0.2)
 .intro s k h
  unfold g62_0 at h
  split at h <;> try exact h.elim
  rename_i e1
  rw [Ac] at h
  have hq:=h.1
  simp only [List.mem_cons,forall_eq_or_imp,decide_eq_true_eq,List.not_mem_nil,false_imp_iff,implies_true,and_true] at hq
  obtain ⟨rfl,hq⟩:=hq
  exact ⟨_,e1,_,(_,_,_,_,_,_,_,_,_),rfl,rfl,hq,h.2⟩
def l62_2(u o:Dat)(p:Nat)(j:Dat)(x:Int):Nat->Nat->Int->Nat->Dat->Option (Nat × Nat × Dat)
 | 0,_,_,_,_=>ak
 | f+1,n,t,v,l=>(cond (aq (t<x)) (cond (aq (0<=t/\t<↑p)) (cond (n89 u (j.ii t.toNat 0) (j.ii t.toNat 1)) (cond (aq (n<=v)) (cond (aq ((n+1)<=1073741824)) (l62_2 u o p j x f (n+1) (Z.wrap (t+1)) (n+1) (l.app n (Aw [V Z 3,SV.str ({ data:=#[] }:BA),SV.str (m89 u (j.ii t.toNat 0) (j.ii t.toNat 1)).1,V Z (m89 u (j.ii t.toNat 0) (j.ii t.toNat 1)).2] 4))) ak) ak) ak) ak) (aj (n,v,l)))
abbrev o62_2(u o:Dat)(p:Nat)(j:Dat)(x:Int)(n:Nat)(t:Int)(v:Nat)(l:Dat):Option (Nat × Nat × Dat):=l62_2 u o p j x (n+p+x.toNat+t.toNat+v+8) n t v l
def e62_2(u o:Dat)(p:Nat)(j:Dat)(x:Int)(r:Nat × Nat × Dat)(K:XR):Prop:=K (XE.exit 2) [.rp [.str,W Z,W Z,.mi [W Z,W Z,.bool],.mb,.mb,W Z,.bool,.m1] o 0 0,.gr 0 4 r.1] [.row 70 [W Z,.str,.str,W Z] r.2.1 r.2.2]
def g62_2:AX:=fun s k=>match czv 0 92 [0,1,7,59,60,61] 1 [⟨az,7,0,0,70,[W Z,.str,.str,W Z]⟩] s with
 | aj ([.rp [.sl [.str,W Z,W Z],.sl [.str,W Z,W Z,W Z],.sl [.pt [.str,W Z,W Z,.mi [W Z,W Z,.bool],.mb,.mb,W Z,.bool,.m1]],W Z] u 0 0,.rp [.str,W Z,W Z,.mi [W Z,W Z,.bool],.mb,.mb,W Z,.bool,.m1] o 0 0,.gr 0 4 n,.ro [W Z,W Z] p j,V Z x,V Z t],[.row 70 [W Z,.str,.str,W Z] v l])=>Ay [(o62_2 u o p j x n t v l).isSome] (e62_2 u o p j x ((o62_2 u o p j x n t v l).getD ax) fun e vs bs=>AL 2 k e (Aq 0 92 [1,7] vs 1 bs))
 | _=>False
theorem z62_2:LOk Tryz.prog g62_2 (.block 2 (Ad (Tryz.f62.body.getD .skip) 2)):=by
 refine lb (ι:=Dat × Dat × Nat × Nat × Dat × Int × Int × Nat × Dat) (fuel:=8) (na:=0) (nt:=92) (nx:=1) (Lh:=[0,1,7,59,60,61]) (Le:=[1,7]) (gl:=[⟨az,7,0,0,70,[W Z,.str,.str,W Z]⟩]) (tc k59c60 (tc k89 (tc k60 (tc k88 tn)))) A6 (AD rfl (lc z62_0 ln)) rfl (fun f (u,o,n,p,j,x,t,v,l) K=>GG ax (e62_2 u o p j x) K (l62_2 u o p j x f n t v l)) (fun (u,o,n,p,j,x,t,v,l)=>[.rp [.sl [.str,W Z,W Z],.sl [.str,W Z,W Z,W Z],.sl [.pt [.str,W Z,W Z,.mi [W Z,W Z,.bool],.mb,.mb,W Z,.bool,.m1]],W Z] u 0 0,.rp [.str,W Z,W Z,.mi [W Z,W Z,.bool],.mb,.mb,W Z,.bool,.m1] o 0 0,.gr 0 4 n,.ro [W Z,W Z] p j,V Z x,V Z t]) (fun (u,o,n,p,j,x,t,v,l)=>[.row 70 [W Z,.str,.str,W Z] v l]) (fun (_,_,_,_,_,_,_,_,_) K=>Au) ?_ ?_
 .rintro f ⟨u,o,n,p,j,x,t,v,l⟩ K hG
  refine ro (fun R=>(cnd (aq (t<x))
 (cnd (aq (0<=t/\t<↑p))
 (cnd (n89 u (j.ii t.toNat 0) (j.ii t.toNat 1))
 (cnd (aq (n<=v))
 (cnd (aq ((n+1)<=1073741824))
 (R (XE.normal) [.rp [.sl [.str,W Z,W Z],.sl [.str,W Z,W Z,W Z],.sl [.pt [.str,W Z,W Z,.mi [W Z,W Z,.bool],.mb,.mb,W Z,.bool,.m1]],W Z] u 0 0,.rp [.str,W Z,W Z,.mi [W Z,W Z,.bool],.mb,.mb,W Z,.bool,.m1] o 0 0,.gr 0 4 (n+1),.ro [W Z,W Z] p j,V Z x,V Z (Z.wrap (t+1))] [.row 70 [W Z,.str,.str,W Z] (n+1) (l.app n (Aw [V Z 3,SV.str ({ data:=#[] }:BA),SV.str (m89 u (j.ii t.toNat 0) (j.ii t.toNat 1)).1,V Z (m89 u (j.ii t.toNat 0) (j.ii t.toNat 1)).2] 4))])
   False)
   False)
  False)
  False)
 (R (XE.exit 2) [.rp [.str,W Z,W Z,.mi [W Z,W Z,.bool],.mb,.mb,W Z,.bool,.m1] o 0 0,.gr 0 4 n] [.row 70 [W Z,.str,.str,W Z] v l]))) (fun R=>by kernel_rfl) ?_
  exact ch hG (fun h0=>cg h0 fun h1=>cg h1 fun h2=>cg h2 fun h3=>cg h3 fun h4=>⟨(_,_,_,_,_,_,_,_,_),rfl,rfl,h4⟩) (fun h0=>h0.2)
 .intro s k h
  unfold g62_2 at h
  split at h <;> try exact h.elim
  rename_i e1
  rw [Ac] at h
  exact ⟨_,e1,_,(_,_,_,_,_,_,_,_,_),rfl,rfl,h.1 _ (List.mem_singleton.2 rfl),h.2⟩
def m62(a b:Dat)(g:Int):Nat × Dat :=
 (cond (b.3 0 (0+1+1+1+1+1+1+1)) ((((o62_2 a b ((m59c60 a (b.sub 0 (0+1+1+1+1))).length) ({ ii:=fun q c=>bif decide (c=0) then (((m59c60 a (b.sub 0 (0+1+1+1+1)))[q]?.getD (0,0)).1:Int) else (((m59c60 a (b.sub 0 (0+1+1+1+1)))[q]?.getD (0,0)).2:Int),ss:=A3.ss,bb:=A3.bb,sn:=A3.sn,sd:=A3.sd }) (((m59c60 a (b.sub 0 (0+1+1+1+1))).length):Int) ((o62_0 a b g (a.sn 0 1) (a.sub 0 1) ((a.sn 0 1):Int) 0 0 A3).getD ax).1 0 ((o62_0 a b g (a.sn 0 1) (a.sub 0 1) ((a.sn 0 1):Int) 0 0 A3).getD ax).2.1 ((o62_0 a b g (a.sn 0 1) (a.sub 0 1) ((a.sn 0 1):Int) 0 0 A3).getD ax).2.2).getD ax).1+1),(((o62_2 a b ((m59c60 a (b.sub 0 (0+1+1+1+1))).length) ({ ii:=fun q c=>bif decide (c=0) then (((m59c60 a (b.sub 0 (0+1+1+1+1)))[q]?.getD (0,0)).1:Int) else (((m59c60 a (b.sub 0 (0+1+1+1+1)))[q]?.getD (0,0)).2:Int),ss:=A3.ss,bb:=A3.bb,sn:=A3.sn,sd:=A3.sd }) (((m59c60 a (b.sub 0 (0+1+1+1+1))).length):Int) ((o62_0 a b g (a.sn 0 1) (a.sub 0 1) ((a.sn 0 1):Int) 0 0 A3).getD ax).1 0 ((o62_0 a b g (a.sn 0 1) (a.sub 0 1) ((a.sn 0 1):Int) 0 0 A3).getD ax).2.1 ((o62_0 a b g (a.sn 0 1) (a.sub 0 1) ((a.sn 0 1):Int) 0 0 A3).getD ax).2.2).getD ax).2.2.app ((o62_2 a b ((m59c60 a (b.sub 0 (0+1+1+1+1))).length) ({ ii:=fun q c=>bif decide (c=0) then (((m59c60 a (b.sub 0 (0+1+1+1+1)))[q]?.getD (0,0)).1:Int) else (((m59c60 a (b.sub 0 (0+1+1+1+1)))[q]?.getD (0,0)).2:Int),ss:=A3.ss,bb:=A3.bb,sn:=A3.sn,sd:=A3.sd }) (((m59c60 a (b.sub 0 (0+1+1+1+1))).length):Int) ((o62_0 a b g (a.sn 0 1) (a.sub 0 1) ((a.sn 0 1):Int) 0 0 A3).getD ax).1 0 ((o62_0 a b g (a.sn 0 1) (a.sub 0 1) ((a.sn 0 1):Int) 0 0 A3).getD ax).2.1 ((o62_0 a b g (a.sn 0 1) (a.sub 0 1) ((a.sn 0 1):Int) 0 0 A3).getD ax).2.2).getD ax).1 (Aw [V Z 3,SV.str ({ data:=#[] }:BA),SV.str (b.ss 0 0),V Z (b.ii 0 6)] 4))) (((o62_2 a b ((m59c60 a (b.sub 0 (0+1+1+1+1))).length) ({ ii:=fun q c=>bif decide (c=0) then (((m59c60 a (b.sub 0 (0+1+1+1+1)))[q]?.getD (0,0)).1:Int) else (((m59c60 a (b.sub 0 (0+1+1+1+1)))[q]?.getD (0,0)).2:Int),ss:=A3.ss,bb:=A3.bb,sn:=A3.sn,sd:=A3.sd }) (((m59c60 a (b.sub 0 (0+1+1+1+1))).length):Int) ((o62_0 a b g (a.sn 0 1) (a.sub 0 1) ((a.sn 0 1):Int) 0 0 A3).getD ax).1 0 ((o62_0 a b g (a.sn 0 1) (a.sub 0 1) ((a.sn 0 1):Int) 0 0 A3).getD ax).2.1 ((o62_0 a b g (a.sn 0 1) (a.sub 0 1) ((a.sn 0 1):Int) 0 0 A3).getD ax).2.2).getD ax).1,((o62_2 a b ((m59c60 a (b.sub 0 (0+1+1+1+1))).length) ({ ii:=fun q c=>bif decide (c=0) then (((m59c60 a (b.sub 0 (0+1+1+1+1)))[q]?.getD (0,0)).1:Int) else (((m59c60 a (b.sub 0 (0+1+1+1+1)))[q]?.getD (0,0)).2:Int),ss:=A3.ss,bb:=A3.bb,sn:=A3.sn,sd:=A3.sd }) (((m59c60 a (b.sub 0 (0+1+1+1+1))).length):Int) ((o62_0 a b g (a.sn 0 1) (a.sub 0 1) ((a.sn 0 1):Int) 0 0 A3).getD ax).1 0 ((o62_0 a b g (a.sn 0 1) (a.sub 0 1) ((a.sn 0 1):Int) 0 0 A3).getD ax).2.1 ((o62_0 a b g (a.sn 0 1) (a.sub 0 1) ((a.sn 0 1):Int) 0 0 A3).getD ax).2.2).getD ax).2.2))
def n62(a b:Dat)(g:Int):Bool :=
 (((o62_0 a b g (a.sn 0 1) (a.sub 0 1) ((a.sn 0 1):Int) 0 0 A3).isSome)&&((n59c60 a (b.sub 0 4))&&(((o62_2 a b ((m59c60 a (b.sub 0 (0+1+1+1+1))).length) ({ ii:=fun q c=>bif decide (c=0) then (((m59c60 a (b.sub 0 (0+1+1+1+1)))[q]?.getD (0,0)).1:Int) else (((m59c60 a (b.sub 0 (0+1+1+1+1)))[q]?.getD (0,0)).2:Int),ss:=A3.ss,bb:=A3.bb,sn:=A3.sn,sd:=A3.sd }) (((m59c60 a (b.sub 0 (0+1+1+1+1))).length):Int) ((o62_0 a b g (a.sn 0 1) (a.sub 0 1) ((a.sn 0 1):Int) 0 0 A3).getD ax).1 0 ((o62_0 a b g (a.sn 0 1) (a.sub 0 1) ((a.sn 0 1):Int) 0 0 A3).getD ax).2.1 ((o62_0 a b g (a.sn 0 1) (a.sub 0 1) ((a.sn 0 1):Int) 0 0 A3).getD ax).2.2).isSome)&&(cond (b.3 0 (0+1+1+1+1+1+1+1)) ((aq (((o62_2 a b ((m59c60 a (b.sub 0 (0+1+1+1+1))).length) ({ ii:=fun q c=>bif decide (c=0) then (((m59c60 a (b.sub 0 (0+1+1+1+1)))[q]?.getD (0,0)).1:Int) else (((m59c60 a (b.sub 0 (0+1+1+1+1)))[q]?.getD (0,0)).2:Int),ss:=A3.ss,bb:=A3.bb,sn:=A3.sn,sd:=A3.sd }) (((m59c60 a (b.sub 0 (0+1+1+1+1))).length):Int) ((o62_0 a b g (a.sn 0 1) (a.sub 0 1) ((a.sn 0 1):Int) 0 0 A3).getD ax).1 0 ((o62_0 a b g (a.sn 0 1) (a.sub 0 1) ((a.sn 0 1):Int) 0 0 A3).getD ax).2.1 ((o62_0 a b g (a.sn 0 1) (a.sub 0 1) ((a.sn 0 1):Int) 0 0 A3).getD ax).2.2).getD ax).1<=((o62_2 a b ((m59c60 a (b.sub 0 (0+1+1+1+1))).length) ({ ii:=fun q c=>bif decide (c=0) then (((m59c60 a (b.sub 0 (0+1+1+1+1)))[q]?.getD (0,0)).1:Int) else (((m59c60 a (b.sub 0 (0+1+1+1+1)))[q]?.getD (0,0)).2:Int),ss:=A3.ss,bb:=A3.bb,sn:=A3.sn,sd:=A3.sd }) (((m59c60 a (b.sub 0 (0+1+1+1+1))).length):Int) ((o62_0 a b g (a.sn 0 1) (a.sub 0 1) ((a.sn 0 1):Int) 0 0 A3).getD ax).1 0 ((o62_0 a b g (a.sn 0 1) (a.sub 0 1) ((a.sn 0 1):Int) 0 0 A3).getD ax).2.1 ((o62_0 a b g (a.sn 0 1) (a.sub 0 1) ((a.sn 0 1):Int) 0 0 A3).getD ax).2.2).getD ax).2.1))&&((aq ((((o62_2 a b ((m59c60 a (b.sub 0 (0+1+1+1+1))).length) ({ ii:=fun q c=>bif decide (c=0) then (((m59c60 a (b.sub 0 (0+1+1+1+1)))[q]?.getD (0,0)).1:Int) else (((m59c60 a (b.sub 0 (0+1+1+1+1)))[q]?.getD (0,0)).2:Int),ss:=A3.ss,bb:=A3.bb,sn:=A3.sn,sd:=A3.sd }) (((m59c60 a (b.sub 0 (0+1+1+1+1))).length):Int) ((o62_0 a b g (a.sn 0 1) (a.sub 0 1) ((a.sn 0 1):Int) 0 0 A3).getD ax).1 0 ((o62_0 a b g (a.sn 0 1) (a.sub 0 1) ((a.sn 0 1):Int) 0 0 A3).getD ax).2.1 ((o62_0 a b g (a.sn 0 1) (a.sub 0 1) ((a.sn 0 1):Int) 0 0 A3).getD ax).2.2).getD ax).1+1)<=1073741824))&&((aq ((0+(((o62_2 a b ((m59c60 a (b.sub 0 (0+1+1+1+1))).length) ({ ii:=fun q c=>bif decide (c=0) then (((m59c60 a (b.sub 0 (0+1+1+1+1)))[q]?.getD (0,0)).1:Int) else (((m59c60 a (b.sub 0 (0+1+1+1+1)))[q]?.getD (0,0)).2:Int),ss:=A3.ss,bb:=A3.bb,sn:=A3.sn,sd:=A3.sd }) (((m59c60 a (b.sub 0 (0+1+1+1+1))).length):Int) ((o62_0 a b g (a.sn 0 1) (a.sub 0 1) ((a.sn 0 1):Int) 0 0 A3).getD ax).1 0 ((o62_0 a b g (a.sn 0 1) (a.sub 0 1) ((a.sn 0 1):Int) 0 0 A3).getD ax).2.1 ((o62_0 a b g (a.sn 0 1) (a.sub 0 1) ((a.sn 0 1):Int) 0 0 A3).getD ax).2.2).getD ax).1+1))<=(((o62_2 a b ((m59c60 a (b.sub 0 (0+1+1+1+1))).length) ({ ii:=fun q c=>bif decide (c=0) then (((m59c60 a (b.sub 0 (0+1+1+1+1)))[q]?.getD (0,0)).1:Int) else (((m59c60 a (b.sub 0 (0+1+1+1+1)))[q]?.getD (0,0)).2:Int),ss:=A3.ss,bb:=A3.bb,sn:=A3.sn,sd:=A3.sd }) (((m59c60 a (b.sub 0 (0+1+1+1+1))).length):Int) ((o62_0 a b g (a.sn 0 1) (a.sub 0 1) ((a.sn 0 1):Int) 0 0 A3).getD ax).1 0 ((o62_0 a b g (a.sn 0 1) (a.sub 0 1) ((a.sn 0 1):Int) 0 0 A3).getD ax).2.1 ((o62_0 a b g (a.sn 0 1) (a.sub 0 1) ((a.sn 0 1):Int) 0 0 A3).getD ax).2.2).getD ax).1+1)))&&az))) ((aq ((0+((o62_2 a b ((m59c60 a (b.sub 0 (0+1+1+1+1))).length) ({ ii:=fun q c=>bif decide (c=0) then (((m59c60 a (b.sub 0 (0+1+1+1+1)))[q]?.getD (0,0)).1:Int) else (((m59c60 a (b.sub 0 (0+1+1+1+1)))[q]?.getD (0,0)).2:Int),ss:=A3.ss,bb:=A3.bb,sn:=A3.sn,sd:=A3.sd }) (((m59c60 a (b.sub 0 (0+1+1+1+1))).length):Int) ((o62_0 a b g (a.sn 0 1) (a.sub 0 1) ((a.sn 0 1):Int) 0 0 A3).getD ax).1 0 ((o62_0 a b g (a.sn 0 1) (a.sub 0 1) ((a.sn 0 1):Int) 0 0 A3).getD ax).2.1 ((o62_0 a b g (a.sn 0 1) (a.sub 0 1) ((a.sn 0 1):Int) 0 0 A3).getD ax).2.2).getD ax).1)<=((o62_2 a b ((m59c60 a (b.sub 0 (0+1+1+1+1))).length) ({ ii:=fun q c=>bif decide (c=0) then (((m59c60 a (b.sub 0 (0+1+1+1+1)))[q]?.getD (0,0)).1:Int) else (((m59c60 a (b.sub 0 (0+1+1+1+1)))[q]?.getD (0,0)).2:Int),ss:=A3.ss,bb:=A3.bb,sn:=A3.sn,sd:=A3.sd }) (((m59c60 a (b.sub 0 (0+1+1+1+1))).length):Int) ((o62_0 a b g (a.sn 0 1) (a.sub 0 1) ((a.sn 0 1):Int) 0 0 A3).getD ax).1 0 ((o62_0 a b g (a.sn 0 1) (a.sub 0 1) ((a.sn 0 1):Int) 0 0 A3).getD ax).2.1 ((o62_0 a b g (a.sn 0 1) (a.sub 0 1) ((a.sn 0 1):Int) 0 0 A3).getD ax).2.2).getD ax).2.1))&&az)))))
def q62(r:Nat × Dat):SV × List Blk × List Blk:=(.ro [W Z,.str,.str,W Z] r.1 r.2,[],[])
def g62:GF:=fun vs bs=>match vs,bs with
 | [.rp [.sl [.str,W Z,W Z],.sl [.str,W Z,W Z,W Z],.sl [.pt [.str,W Z,W Z,.mi [W Z,W Z,.bool],.mb,.mb,W Z,.bool,.m1]],W Z] a 0 0,.rp [.str,W Z,W Z,.mi [W Z,W Z,.bool],.mb,.mb,W Z,.bool,.m1] b 0 0,V Z g],[]=>aj (rs 0 (q62 (m62 a b g)) [n62 a b g])
 | _,_=>ak
def c62:Ctr:=AA [.rp [.sl [.str,W Z,W Z],.sl [.str,W Z,W Z,W Z],.sl [.pt [.str,W Z,W Z,.mi [W Z,W Z,.bool],.mb,.mb,W Z,.bool,.m1]],W Z],.rp [.str,W Z,W Z,.mi [W Z,W Z,.bool],.mb,.mb,W Z,.bool,.m1],.k] g62
theorem k62:Ag Tryz.prog c62 62:=cx (tc k59c60 (tc k89 (tc k60 (tc k88 tn)))) A6 8 (fn:=Tryz.f62) (c:=(Tryz.f62.body.getD .skip)) (grs:=[]) (rh:=.ro [W Z,.str,.str,W Z]) Tryz.func62 rfl (by kernel_rfl) (AD rfl (lc z62_0 (lc z62_2 ln))) fun vs bs q h hn=>by
 unfold g62 at h
 split at h <;> cases h
 rename_i a b g
 have hn:=n1 hn
 exact ⟨_,rfl,ca (fun R => 
 let a0:=((o62_0 a b g (a.sn 0 1) (a.sub 0 1) ((a.sn 0 1):Int) 0 0 A3).getD ax)
 let b0:=(m59c60 a (b.sub 0 (0+1+1+1+1)))
 let c0:=((b0.length):Int)
 (cnd ((o62_0 a b g (a.sn 0 1) (a.sub 0 1) ((a.sn 0 1):Int) 0 0 A3).isSome)
 (cnd (n59c60 a (b.sub 0 4))
 (cnd ((o62_2 a b (b0.length) ({ ii:=fun q c=>bif decide (c=0) then ((b0[q]?.getD (0,0)).1:Int) else ((b0[q]?.getD (0,0)).2:Int),ss:=A3.ss,bb:=A3.bb,sn:=A3.sn,sd:=A3.sd }) c0 a0.1 0 a0.2.1 a0.2.2).isSome)
 (cnd (b.3 0 (0+1+1+1+1+1+1+1))
 (cnd (aq (((o62_2 a b (b0.length) ({ ii:=fun q c=>bif decide (c=0) then ((b0[q]?.getD (0,0)).1:Int) else ((b0[q]?.getD (0,0)).2:Int),ss:=A3.ss,bb:=A3.bb,sn:=A3.sn,sd:=A3.sd }) c0 a0.1 0 a0.2.1 a0.2.2).getD ax).1<=((o62_2 a b (b0.length) ({ ii:=fun q c=>bif decide (c=0) then ((b0[q]?.getD (0,0)).1:Int) else ((b0[q]?.getD (0,0)).2:Int),ss:=A3.ss,bb:=A3.bb,sn:=A3.sn,sd:=A3.sd }) c0 a0.1 0 a0.2.1 a0.2.2).getD ax).2.1))
 (cnd (aq ((((o62_2 a b (b0.length) ({ ii:=fun q c=>bif decide (c=0) then ((b0[q]?.getD (0,0)).1:Int) else ((b0[q]?.getD (0,0)).2:Int),ss:=A3.ss,bb:=A3.bb,sn:=A3.sn,sd:=A3.sd }) c0 a0.1 0 a0.2.1 a0.2.2).getD ax).1+1)<=1073741824))
 (cnd (aq ((0+(((o62_2 a b (b0.length) ({ ii:=fun q c=>bif decide (c=0) then ((b0[q]?.getD (0,0)).1:Int) else ((b0[q]?.getD (0,0)).2:Int),ss:=A3.ss,bb:=A3.bb,sn:=A3.sn,sd:=A3.sd }) c0 a0.1 0 a0.2.1 a0.2.2).getD ax).1+1))<=(((o62_2 a b (b0.length) ({ ii:=fun q c=>bif decide (c=0) then ((b0[q]?.getD (0,0)).1:Int) else ((b0[q]?.getD (0,0)).2:Int),ss:=A3.ss,bb:=A3.bb,sn:=A3.sn,sd:=A3.sd }) c0 a0.1 0 a0.2.1 a0.2.2).getD ax).1+1)))
 (R (.ro [W Z,.str,.str,W Z] (((o62_2 a b (b0.length) ({ ii:=fun q c=>bif decide (c=0) then ((b0[q]?.getD (0,0)).1:Int) else ((b0[q]?.getD (0,0)).2:Int),ss:=A3.ss,bb:=A3.bb,sn:=A3.sn,sd:=A3.sd }) c0 a0.1 0 a0.2.1 a0.2.2).getD ax).1+1) (((o62_2 a b (b0.length) ({ ii:=fun q c=>bif decide (c=0) then ((b0[q]?.getD (0,0)).1:Int) else ((b0[q]?.getD (0,0)).2:Int),ss:=A3.ss,bb:=A3.bb,sn:=A3.sn,sd:=A3.sd }) c0 a0.1 0 a0.2.1 a0.2.2).getD ax).2.2.app ((o62_2 a b (b0.length) ({ ii:=fun q c=>bif decide (c=0) then ((b0[q]?.getD (0,0)).1:Int) else ((b0[q]?.getD (0,0)).2:Int),ss:=A3.ss,bb:=A3.bb,sn:=A3.sn,sd:=A3.sd }) c0 a0.1 0 a0.2.1 a0.2.2).getD ax).1 (Aw [V Z 3,SV.str ({ data:=#[] }:BA),SV.str (b.ss 0 0),V Z (b.ii 0 6)] 4))) [] [])
    False)
    False)
   False)
 (cnd (aq ((0+((o62_2 a b (b0.length) ({ ii:=fun q c=>bif decide (c=0) then ((b0[q]?.getD (0,0)).1:Int) else ((b0[q]?.getD (0,0)).2:Int),ss:=A3.ss,bb:=A3.bb,sn:=A3.sn,sd:=A3.sd }) c0 a0.1 0 a0.2.1 a0.2.2).getD ax).1)<=((o62_2 a b (b0.length) ({ ii:=fun q c=>bif decide (c=0) then ((b0[q]?.getD (0,0)).1:Int) else ((b0[q]?.getD (0,0)).2:Int),ss:=A3.ss,bb:=A3.bb,sn:=A3.sn,sd:=A3.sd }) c0 a0.1 0 a0.2.1 a0.2.2).getD ax).2.1))
 (R (.ro [W Z,.str,.str,W Z] ((o62_2 a b (b0.length) ({ ii:=fun q c=>bif decide (c=0) then ((b0[q]?.getD (0,0)).1:Int) else ((b0[q]?.getD (0,0)).2:Int),ss:=A3.ss,bb:=A3.bb,sn:=A3.sn,sd:=A3.sd }) c0 a0.1 0 a0.2.1 a0.2.2).getD ax).1 ((o62_2 a b (b0.length) ({ ii:=fun q c=>bif decide (c=0) then ((b0[q]?.getD (0,0)).1:Int) else ((b0[q]?.getD (0,0)).2:Int),ss:=A3.ss,bb:=A3.bb,sn:=A3.sn,sd:=A3.sd }) c0 a0.1 0 a0.2.1 a0.2.2).getD ax).2.2) [] [])
   False))
  False)
  False)
 False)) (fun R=>by kernel_rfl) (cn (al hn) (cn (al (ar hn)) (cn (al (ar (ar hn))) (co (fun h0=>cn (al (ct h0 (ar (ar (ar hn))))) (cn (al (ar (ct h0 (ar (ar (ar hn)))))) (cn (al (ar (ar (ct h0 (ar (ar (ar hn))))))) (lf (cT h0 rfl) rfl)))) (fun h0=>cn (al (cf h0 (ar (ar (ar hn))))) (lf (cF h0 rfl) rfl))))))⟩

/-! ### (*shotline/kit.shop).usable -/
def m106(a b:Dat)(d:Int):Bool :=
 (aq ((((m62 a b d).1):Int)=0))
def n106(a b:Dat)(d:Int):Bool :=
 ((n62 a b d)&&az)
def q106(r:Bool):SV × List Blk × List Blk:=(.bool r,[],[])
def g106:GF:=fun vs bs=>match vs,bs with
 | [.rp [.sl [.str,W Z,W Z],.sl [.str,W Z,W Z,W Z],.sl [.pt [.str,W Z,W Z,.mi [W Z,W Z,.bool],.mb,.mb,W Z,.bool,.m1]],W Z] a 0 0,.rp [.str,W Z,W Z,.mi [W Z,W Z,.bool],.mb,.mb,W Z,.bool,.m1] b 0 0,V Z d],[]=>aj (rs 0 (q106 (m106 a b d)) [n106 a b d])
 | _,_=>ak
def c106:Ctr:=AA [.rp [.sl [.str,W Z,W Z],.sl [.str,W Z,W Z,W Z],.sl [.pt [.str,W Z,W Z,.mi [W Z,W Z,.bool],.mb,.mb,W Z,.bool,.m1]],W Z],.rp [.str,W Z,W Z,.mi [W Z,W Z,.bool],.mb,.mb,W Z,.bool,.m1],.k] g106
theorem k106:Ag Tryz.prog c106 106:=cx (tc k62 tn) A6 8 (fn:=Tryz.f106) (c:=(Tryz.f106.body.getD .skip)) (grs:=[]) (rh:=.k) Tryz.func106 rfl (by kernel_rfl) As fun vs bs q h hn=>by
 unfold g106 at h
 split at h <;> cases h
 rename_i a b d
 have hn:=n1 hn
 exact ⟨_,rfl,ca (fun R=>(cnd (n62 a b d)
 (R (.bool (aq ((((m62 a b d).1):Int)=0))) [] [])
 False)) (fun R=>by kernel_rfl) (cn (al hn) (lf rfl rfl))⟩
/-! ### shotline/kit.Quarantined$1 -/
def m58(a b:Dat):Bool :=
 (aq ((0:Int)<(((m59c60 (b.sub 0 0) (a.sub 0 (0+1+1+1+1))).length):Int)))
def n58(a b:Dat):Bool :=
 ((n59c60 (b.sub 0 0) (a.sub 0 4))&&az)
def q58(r:Bool):SV × List Blk × List Blk:=(.bool r,[],[])
def g58:GF:=fun vs bs=>match vs,bs with
 | [.rp [.str,W Z,W Z,.mi [W Z,W Z,.bool],.mb,.mb,W Z,.bool,.m1] a 0 0,.rp [.pt [.sl [.str,W Z,W Z],.sl [.str,W Z,W Z,W Z],.sl [.pt [.str,W Z,W Z,.mi [W Z,W Z,.bool],.mb,.mb,W Z,.bool,.m1]],W Z]] b 0 0],[]=>aj (rs 0 (q58 (m58 a b)) [n58 a b])
 | _,_=>ak
def c58:Ctr:=AA [.rp [.str,W Z,W Z,.mi [W Z,W Z,.bool],.mb,.mb,W Z,.bool,.m1],.rp [.pt [.sl [.str,W Z,W Z],.sl [.str,W Z,W Z,W Z],.sl [.pt [.str,W Z,W Z,.mi [W Z,W Z,.bool],.mb,.mb,W Z,.bool,.m1]],W Z]]] g58
theorem k58:Ag Tryz.prog c58 58:=cx (tc k59c60 (tc k60 tn)) A6 8 (fn:=Tryz.f58) (c:=(Tryz.f58.body.getD .skip)) (grs:=[]) (rh:=.k) Tryz.func58 rfl (by kernel_rfl) As fun vs bs q h hn=>by
 unfold g58 at h
 split at h <;> cases h
 rename_i a b
 have hn:=n1 hn
 exact ⟨_,rfl,ca (fun R=>(cnd (n59c60 (b.sub 0 0) (a.sub 0 4))
 (R (.bool (aq ((0:Int)<(((m59c60 (b.sub 0 0) (a.sub 0 (0+1+1+1+1))).length):Int)))) [] [])
 False)) (fun R=>by kernel_rfl) (cn (al hn) (lf rfl rfl))⟩

/-! ### (*shotline/kit.shop).those -/
def l57c58_0(m:Dat)(b:Nat)(a:Dat)(j:Int):Nat->Nat->Int->Dat->Option (Nat × Nat × Dat)
 | 0,_,_,_=>ak
 | f+1,l,g,i=>(cond (aq (g<j)) (cond (aq (0<=g/\g<↑b)) (cond (n58 (a.sub g.toNat 0) m) (cond (m58 (a.sub g.toNat 0) m) (cond (aq ((l+1)<=1073741824)) (l57c58_0 m b a j f (l+1) (Z.wrap (g+1)) (i.app l (Aw [SV.str ((a.sub g.toNat 0).ss 0 0)] 1))) ak) (l57c58_0 m b a j f l (Z.wrap (g+1)) i)) ak) ak) (aj (l,l,i)))
abbrev o57c58_0(m:Dat)(b:Nat)(a:Dat)(j:Int)(l:Nat)(g:Int)(i:Dat):Option (Nat × Nat × Dat):=l57c58_0 m b a j (l+b+j.toNat+g.toNat+8) l g i
def e57c58_0(m:Dat)(b:Nat)(a:Dat)(j:Int)(r:Nat × Nat × Dat)(K:XR):Prop:=K (XE.exit 0) [.gr 0 1 r.1] [.row 9 [.str] r.2.1 r.2.2]
def g57c58_0:AX:=fun s k=>match czv 0 30 [1,5,11,12,13] 1 [⟨az,5,0,0,9,[.str]⟩] s with
 | aj ([.fn 58 [.rp [.pt [.sl [.str,W Z,W Z],.sl [.str,W Z,W Z,W Z],.sl [.pt [.str,W Z,W Z,.mi [W Z,W Z,.bool],.mb,.mb,W Z,.bool,.m1]],W Z]] m 0 0],.gr 0 1 l,.ro [.pt [.str,W Z,W Z,.mi [W Z,W Z,.bool],.mb,.mb,W Z,.bool,.m1]] b a,V Z j,V Z g],[.row 9 [.str] b0_0 i])=>Ay [decide (l=b0_0),(o57c58_0 m b a j l g i).isSome] (e57c58_0 m b a j ((o57c58_0 m b a j l g i).getD ax) fun e vs bs=>AL 0 k e (Aq 0 30 [5] vs 1 bs))
 | _=>False
theorem z57c58_0:LOk Tryz.prog g57c58_0 (.block 0 (Ad (Tryz.f57.body.getD .skip) 0)):=by
 refine lb (ι:=Dat × Nat × Nat × Dat × Int × Int × Dat) (fuel:=8) (na:=0) (nt:=30) (nx:=1) (Lh:=[1,5,11,12,13]) (Le:=[5]) (gl:=[⟨az,5,0,0,9,[.str]⟩]) (tc k58 tn) A6 As rfl (fun f (m,l,b,a,j,g,i) K=>GG ax (e57c58_0 m b a j) K (l57c58_0 m b a j f l g i)) (fun (m,l,b,a,j,g,i)=>[.fn 58 [.rp [.pt [.sl [.str,W Z,W Z],.sl [.str,W Z,W Z,W Z],.sl [.pt [.str,W Z,W Z,.mi [W Z,W Z,.bool],.mb,.mb,W Z,.bool,.m1]],W Z]] m 0 0],.gr 0 1 l,.ro [.pt [.str,W Z,W Z,.mi [W Z,W Z,.bool],.mb,.mb,W Z,.bool,.m1]] b a,V Z j,V Z g]) (fun (m,l,b,a,j,g,i)=>[.row 9 [.str] l i]) (fun (_,_,_,_,_,_,_) K=>Au) ?_ ?_
 .rintro f ⟨m,l,b,a,j,g,i⟩ K hG
  refine ro (fun R=>(cnd (aq (g<j))
 (cnd (aq (0<=g/\g<↑b))
 (cnd (n58 (a.sub g.toNat 0) m)
 (cnd (m58 (a.sub g.toNat 0) m)
 (cnd (aq (l<=l))
 (cnd (aq ((l+1)<=1073741824))
 (R (XE.normal) [.fn 58 [.rp [.pt [.sl [.str,W Z,W Z],.sl [.str,W Z,W Z,W Z],.sl [.pt [.str,W Z,W Z,.mi [W Z,W Z,.bool],.mb,.mb,W Z,.bool,.m1]],W Z]] m 0 0],.gr 0 1 (l+1),.ro [.pt [.str,W Z,W Z,.mi [W Z,W Z,.bool],.mb,.mb,W Z,.bool,.m1]] b a,V Z j,V Z (Z.wrap (g+1))] [.row 9 [.str] (l+1) (i.app l (Aw [SV.str ((a.sub g.toNat 0).ss 0 0)] 1))])
    False)
   False)
 (R (XE.normal) [.fn 58 [.rp [.pt [.sl [.str,W Z,W Z],.sl [.str,W Z,W Z,W Z],.sl [.pt [.str,W Z,W Z,.mi [W Z,W Z,.bool],.mb,.mb,W Z,.bool,.m1]],W Z]] m 0 0],.gr 0 1 l,.ro [.pt [.str,W Z,W Z,.mi [W Z,W Z,.bool],.mb,.mb,W Z,.bool,.m1]] b a,V Z j,V Z (Z.wrap (g+1))] [.row 9 [.str] l i]))
  False)
  False)
 (R (XE.exit 0) [.gr 0 1 l] [.row 9 [.str] l i]))) (fun R=>by kernel_rfl) ?_
  exact ch hG (fun h0=>cg h0 fun h1=>cg h1 fun h2=>ch h2 (fun h3=>cn (decide_eq_true (Nat.le_refl _)) (cg h3 fun h4=>⟨(_,_,_,_,_,_,_),rfl,rfl,h4⟩)) (fun h3=>⟨(_,_,_,_,_,_,_),rfl,rfl,h3⟩)) (fun h0=>h0.2)
 .intro s k h
  unfold g57c58_0 at h
  split at h <;> try exact h.elim
  rename_i e1
  rw [Ac] at h
  have hq:=h.1
  simp only [List.mem_cons,forall_eq_or_imp,decide_eq_true_eq,List.not_mem_nil,false_imp_iff,implies_true,and_true] at hq
  obtain ⟨rfl,hq⟩:=hq
  exact ⟨_,e1,_,(_,_,_,_,_,_,_),rfl,rfl,hq,h.2⟩
def m57c58(d da1c0:Dat):Nat × Nat × Dat :=
 (((o57c58_0 da1c0 (d.sn 0 2) (d.sub 0 2) ((d.sn 0 2):Int) 0 0 A3).getD ax).1,((o57c58_0 da1c0 (d.sn 0 2) (d.sub 0 2) ((d.sn 0 2):Int) 0 0 A3).getD ax).2.1,((o57c58_0 da1c0 (d.sn 0 2) (d.sub 0 2) ((d.sn 0 2):Int) 0 0 A3).getD ax).2.2)
def n57c58(d da1c0:Dat):Bool :=
 (((o57c58_0 da1c0 (d.sn 0 2) (d.sub 0 2) ((d.sn 0 2):Int) 0 0 A3).isSome)&&az)
def q57c58(r:Nat × Nat × Dat):SV × List Blk × List Blk:=(.gr 0 1 r.1,[],[.row 9 [.str] r.2.1 r.2.2])
def g57c58:GF:=fun vs bs=>match vs,bs with
 | [.rp [.sl [.str,W Z,W Z],.sl [.str,W Z,W Z,W Z],.sl [.pt [.str,W Z,W Z,.mi [W Z,W Z,.bool],.mb,.mb,W Z,.bool,.m1]],W Z] d 0 0,.fn 58 [.rp [.pt [.sl [.str,W Z,W Z],.sl [.str,W Z,W Z,W Z],.sl [.pt [.str,W Z,W Z,.mi [W Z,W Z,.bool],.mb,.mb,W Z,.bool,.m1]],W Z]] da1c0 0 0]],[]=>aj (rs 0 (q57c58 (m57c58 d da1c0)) [n57c58 d da1c0])
 | _,_=>ak
def c57c58:Ctr:=AA [.rp [.sl [.str,W Z,W Z],.sl [.str,W Z,W Z,W Z],.sl [.pt [.str,W Z,W Z,.mi [W Z,W Z,.bool],.mb,.mb,W Z,.bool,.m1]],W Z],.f [.rp [.pt [.sl [.str,W Z,W Z],.sl [.str,W Z,W Z,W Z],.sl [.pt [.str,W Z,W Z,.mi [W Z,W Z,.bool],.mb,.mb,W Z,.bool,.m1]],W Z]]]] g57c58
theorem k57c58:Ag Tryz.prog c57c58 57:=cx (tc k58 tn) A6 8 (fn:=Tryz.f57) (c:=(Tryz.f57.body.getD .skip)) (grs:=[]) (rh:=.k) Tryz.func57 rfl (by kernel_rfl) (AD rfl (lc z57c58_0 ln)) fun vs bs q h hn=>by
 unfold g57c58 at h
 split at h <;> cases h
 rename_i d da1c0
 have hn:=n1 hn
 exact ⟨_,rfl,ca (fun R=>(cnd ((o57c58_0 da1c0 (d.sn 0 2) (d.sub 0 2) ((d.sn 0 2):Int) 0 0 A3).isSome)
 (R (.gr 0 1 ((o57c58_0 da1c0 (d.sn 0 2) (d.sub 0 2) ((d.sn 0 2):Int) 0 0 A3).getD ax).1) [] [.row 9 [.str] ((o57c58_0 da1c0 (d.sn 0 2) (d.sub 0 2) ((d.sn 0 2):Int) 0 0 A3).getD ax).2.1 ((o57c58_0 da1c0 (d.sn 0 2) (d.sub 0 2) ((d.sn 0 2):Int) 0 0 A3).getD ax).2.2])
 False)) (fun R=>by kernel_rfl) (cn (al hn) (lf rfl rfl))⟩

/-! ### slices.Index[[]*shotline/kit.thing,*shotline/kit.thing] -/
def l128rz_0(a:Nat)(d:Dat)(g:Bool)(b:Nat)(i:Dat)(m:Int):Nat->Int->Option (Bool × (Int) × (Unit))
 | 0,_=>ak
 | f+1,l=>(cond (aq (l<m)) (cond (aq (0<=l/\l<↑a)) (cond (bif g then (az&&(b.beq (d.sn l.toNat 0))) else false) (aj (az,l,ax)) (l128rz_0 a d g b i m f (Z.wrap (l+1)))) ak) (aj (false,ax,())))
abbrev o128rz_0(a:Nat)(d:Dat)(g:Bool)(b:Nat)(i:Dat)(m l:Int):Option (Bool × (Int) × (Unit)):=l128rz_0 a d g b i m (a+b+m.toNat+l.toNat+8) l
def e128rz_0(a:Nat)(d:Dat)(g:Bool)(b:Nat)(i:Dat)(m:Int)(r:Bool × (Int) × (Unit))(K:XR):Prop:=cnd r.1 (K (XE.ret) [V Z r.2.1] []) (K (XE.exit 0) [.any] [])
def g128rz_0:AX:=fun s k=>match czv 0 19 [0,1,7,8] 0 [] s with
 | aj ([.ro [.pz [.str,W Z,W Z,.mi [W Z,W Z,.bool],.mb,.mb,W Z,.bool,.m1]] a d,.rz g b [.str,W Z,W Z,.mi [W Z,W Z,.bool],.mb,.mb,W Z,.bool,.m1] i,V Z m,V Z l],[])=>Ay [(o128rz_0 a d g b i m l).isSome] (e128rz_0 a d g b i m ((o128rz_0 a d g b i m l).getD ax) fun e vs bs=>AL 0 k e (Aq 0 19 [4] vs 0 bs))
 | _=>False
theorem z128rz_0:LOk Tryz.prog g128rz_0 (.block 0 (Ad (Tryz.f128.body.getD .skip) 0)):=by
 refine lb (ι:=Nat × Dat × Bool × Nat × Dat × Int × Int) (fuel:=8) (na:=0) (nt:=19) (nx:=0) (Lh:=[0,1,7,8]) (Le:=[4]) (gl:=[]) tn A6 As rfl (fun f (a,d,g,b,i,m,l) K=>GG ax (e128rz_0 a d g b i m) K (l128rz_0 a d g b i m f l)) (fun (a,d,g,b,i,m,l)=>[.ro [.pz [.str,W Z,W Z,.mi [W Z,W Z,.bool],.mb,.mb,W Z,.bool,.m1]] a d,.rz g b [.str,W Z,W Z,.mi [W Z,W Z,.bool],.mb,.mb,W Z,.bool,.m1] i,V Z m,V Z l]) (fun (a,d,g,b,i,m,l)=>[]) (fun (_,_,_,_,_,_,_) K=>Au) ?_ ?_
 .rintro f ⟨a,d,g,b,i,m,l⟩ K hG
  refine ro (fun R=>(cnd (aq (l<m))
 (cnd (aq (0<=l/\l<↑a))
 (cnd (bif g then (az&&(b.beq (d.sn l.toNat 0))) else false)
 (R (XE.ret) [V Z l] [])
 (R (XE.normal) [.ro [.pz [.str,W Z,W Z,.mi [W Z,W Z,.bool],.mb,.mb,W Z,.bool,.m1]] a d,.rz g b [.str,W Z,W Z,.mi [W Z,W Z,.bool],.mb,.mb,W Z,.bool,.m1] i,V Z m,V Z (Z.wrap (l+1))] []))
  False)
 (R (XE.exit 0) [.any] []))) (fun R=>by kernel_rfl) ?_
  exact ch hG (fun h0=>cg h0 fun h1=>ch h1 (fun h2=>h2.2) (fun h2=>⟨(_,_,_,_,_,_,_),rfl,rfl,h2⟩)) (fun h0=>h0.2)
 .intro s k h
  unfold g128rz_0 at h
  split at h <;> try exact h.elim
  rename_i e1
  rw [Ac] at h
  exact ⟨_,e1,_,(_,_,_,_,_,_,_),rfl,rfl,h.1 _ (List.mem_singleton.2 rfl),h.2⟩
def m128rz(j:Nat)(n:Dat)(ia1:Nat)(o:Dat):Int :=
 (cond ((o128rz_0 j n az ia1 o (j:Int) 0).getD ax).1 ((o128rz_0 j n az ia1 o (j:Int) 0).getD ax).2.1 (-1))
def n128rz(j:Nat)(n:Dat)(ia1:Nat)(o:Dat):Bool :=
 (((o128rz_0 j n az ia1 o (j:Int) 0).isSome)&&az)
def q128rz(r:Int):SV × List Blk × List Blk:=(V Z r,[],[])
def g128rz:GF:=fun vs bs=>match vs,bs with
 | [.ro [.pz [.str,W Z,W Z,.mi [W Z,W Z,.bool],.mb,.mb,W Z,.bool,.m1]] j n,.rz az ia1 [.str,W Z,W Z,.mi [W Z,W Z,.bool],.mb,.mb,W Z,.bool,.m1] o],[]=>aj (rs 0 (q128rz (m128rz j n ia1 o)) [n128rz j n ia1 o])
 | _,_=>ak
def c128rz:Ctr:=AA [.ro [.pz [.str,W Z,W Z,.mi [W Z,W Z,.bool],.mb,.mb,W Z,.bool,.m1]],.k] g128rz
theorem k128rz:Ag Tryz.prog c128rz 128:=cx tn A6 8 (fn:=Tryz.f128) (c:=(Tryz.f128.body.getD .skip)) (grs:=[]) (rh:=.k) Tryz.func128 rfl (by kernel_rfl) (AD rfl (lc z128rz_0 ln)) fun vs bs q h hn=>by
 unfold g128rz at h
 split at h <;> cases h
 rename_i j n ia1 o
 have hn:=n1 hn
 exact ⟨_,rfl,ca (fun R=>(cnd ((o128rz_0 j n az ia1 o (j:Int) 0).isSome)
 (cnd ((o128rz_0 j n az ia1 o (j:Int) 0).getD ax).1
 (R (V Z ((o128rz_0 j n az ia1 o (j:Int) 0).getD ax).2.1) [] [])
 (R (V Z (-1)) [] []))
 False)) (fun R=>by kernel_rfl) (cn (al hn) (co (fun h0=>lf (cT h0 rfl) rfl) (fun h0=>lf (cF h0 rfl) rfl)))⟩

end
end Go.Proofs.YtdcdjjogieojhaaGreatDoor
